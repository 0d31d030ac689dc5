import Derived.Test.YtmchllbemgnieaaDoorL4LentK2
import Derived.KernelRfl
section
open Go Go.Vc Go.Vc.S9 Go.Proofs
set_option maxRecDepth 100000
set_option linter.unusedVariables false
namespace Go.Vc.S9
def vc25 (v : Int) (u_0 : Int) (u_1 : Int) (u_2 : Bool) (u_3 : Sl) (w : World) (R : SV → World → Prop) : Prop :=
  ∀ (b : Nat),
    Br (v != 4)
      (Br (v != 6) (∀ (w1 : World), Upd [] [b] w w1 → R (SV.int IntKind.i64 20) w1)
        (∀ (w1 : World),
          Upd [] [b] w w1 →
            Ret Tryd.prog 77 [SV.int IntKind.i64 u_0, SV.int IntKind.i64 65535] w1 fun (r : SV) (w1_1 : World) =>
              ∃ (b_1 : Bool),
                r = SV.bool b_1 ∧
                  Keeps [b] w1 w1_1 ∧
                    Br b_1 (R (SV.int IntKind.i64 98) w1_1)
                      (Ret Tryd.prog 77 [SV.int IntKind.i64 u_1, SV.int IntKind.i64 65535] w1_1 fun (r : SV) (w1 : World) =>
                        ∃ (b_2 : Bool),
                          r = SV.bool b_2 ∧
                            Keeps [b] w1_1 w1 ∧
                              Br b_2 (R (SV.int IntKind.i64 98) w1)
                                (Br u_2
                                  (Br (v == 6) (R (SV.int IntKind.i64 98) w1) (Br (decide ((↑u_3.2 : Int) > 65527)) (R (SV.int IntKind.i64 2) w1) (R (SV.int IntKind.i64 0) w1)))
                                  (Br (decide ((↑u_3.2 : Int) > 65527)) (R (SV.int IntKind.i64 2) w1) (R (SV.int IntKind.i64 0) w1))))))
      (∀ (w1 : World),
        Upd [] [b] w w1 →
          Ret Tryd.prog 77 [SV.int IntKind.i64 u_0, SV.int IntKind.i64 65535] w1 fun (r : SV) (w1_1 : World) =>
            ∃ (b_1 : Bool),
              r = SV.bool b_1 ∧
                Keeps [b] w1 w1_1 ∧
                  Br b_1 (R (SV.int IntKind.i64 98) w1_1)
                    (Ret Tryd.prog 77 [SV.int IntKind.i64 u_1, SV.int IntKind.i64 65535] w1_1 fun (r : SV) (w1 : World) =>
                      ∃ (b_2 : Bool),
                        r = SV.bool b_2 ∧
                          Keeps [b] w1_1 w1 ∧
                            Br b_2 (R (SV.int IntKind.i64 98) w1)
                              (Br u_2 (Br (v == 6) (R (SV.int IntKind.i64 98) w1) (Br (decide ((↑u_3.2 : Int) > 65527)) (R (SV.int IntKind.i64 2) w1) (R (SV.int IntKind.i64 0) w1)))
                                (Br (decide ((↑u_3.2 : Int) > 65527)) (R (SV.int IntKind.i64 2) w1) (R (SV.int IntKind.i64 0) w1)))))
theorem f25_of (v : Int) (u_0 : Int) (u_1 : Int) (u_2 : Bool) (u_3 : Sl) (w : World) (R : SV → World → Prop) (h : vc25 v u_0 u_1 u_2 u_3 w R) : Ret Tryd.prog 25 [.int .i64 v, .struct [.int .i64 u_0, .int .i64 u_1, .bool u_2, .slice u_3]] w R :=
  have e : vc25 v u_0 u_1 u_2 u_3 w R = fnVC X Tryd.f25 a25 [.int .i64 v, .struct [.int .i64 u_0, .int .i64 u_1, .bool u_2, .slice u_3]] w R := by kernel_rfl
  fnVC_sound X_ok (n := a25) (e ▸ h) (by kernel_rfl) (by kernel_rfl) rfl rfl

def vc59 (v : Int) (u_0 : Int) (u_1 : Int) (u_2 : Bool) (u_3 : Sl) (w : World) (R : SV → World → Prop) : Prop :=
  ∀ (b : Nat),
    Br (v != 4)
      (Br (v != 6) (∀ (w1 : World), Upd [] [b] w w1 → R (SV.int IntKind.i64 20) w1)
        (∀ (w1 : World),
          Upd [] [b] w w1 →
            Ret Tryd.prog 93 [SV.int IntKind.i64 u_0, SV.int IntKind.i64 65535] w1 fun (r : SV) (w1_1 : World) =>
              ∃ (b_1 : Bool),
                r = SV.bool b_1 ∧
                  Keeps [b] w1 w1_1 ∧
                    Br b_1 (R (SV.int IntKind.i64 98) w1_1)
                      (Ret Tryd.prog 93 [SV.int IntKind.i64 u_1, SV.int IntKind.i64 65535] w1_1 fun (r : SV) (w1 : World) =>
                        ∃ (b_2 : Bool),
                          r = SV.bool b_2 ∧
                            Keeps [b] w1_1 w1 ∧
                              Br b_2 (R (SV.int IntKind.i64 98) w1)
                                (Br u_2
                                  (Br (v == 6) (R (SV.int IntKind.i64 98) w1)
                                    (Br (decide (wr IntKind.i64 (8 + (↑u_3.2 : Int)) > 65535)) (R (SV.int IntKind.i64 2) w1) (R (SV.int IntKind.i64 0) w1)))
                                  (Br (decide (wr IntKind.i64 (8 + (↑u_3.2 : Int)) > 65535)) (R (SV.int IntKind.i64 2) w1) (R (SV.int IntKind.i64 0) w1))))))
      (∀ (w1 : World),
        Upd [] [b] w w1 →
          Ret Tryd.prog 93 [SV.int IntKind.i64 u_0, SV.int IntKind.i64 65535] w1 fun (r : SV) (w1_1 : World) =>
            ∃ (b_1 : Bool),
              r = SV.bool b_1 ∧
                Keeps [b] w1 w1_1 ∧
                  Br b_1 (R (SV.int IntKind.i64 98) w1_1)
                    (Ret Tryd.prog 93 [SV.int IntKind.i64 u_1, SV.int IntKind.i64 65535] w1_1 fun (r : SV) (w1 : World) =>
                      ∃ (b_2 : Bool),
                        r = SV.bool b_2 ∧
                          Keeps [b] w1_1 w1 ∧
                            Br b_2 (R (SV.int IntKind.i64 98) w1)
                              (Br u_2
                                (Br (v == 6) (R (SV.int IntKind.i64 98) w1)
                                  (Br (decide (wr IntKind.i64 (8 + (↑u_3.2 : Int)) > 65535)) (R (SV.int IntKind.i64 2) w1) (R (SV.int IntKind.i64 0) w1)))
                                (Br (decide (wr IntKind.i64 (8 + (↑u_3.2 : Int)) > 65535)) (R (SV.int IntKind.i64 2) w1) (R (SV.int IntKind.i64 0) w1)))))
theorem f59_of (v : Int) (u_0 : Int) (u_1 : Int) (u_2 : Bool) (u_3 : Sl) (w : World) (R : SV → World → Prop) (h : vc59 v u_0 u_1 u_2 u_3 w R) : Ret Tryd.prog 59 [.int .i64 v, .struct [.int .i64 u_0, .int .i64 u_1, .bool u_2, .slice u_3]] w R :=
  have e : vc59 v u_0 u_1 u_2 u_3 w R = fnVC X Tryd.f59 a59 [.int .i64 v, .struct [.int .i64 u_0, .int .i64 u_1, .bool u_2, .slice u_3]] w R := by kernel_rfl
  fnVC_sound X_ok (n := a59) (e ▸ h) (by kernel_rfl) (by kernel_rfl) rfl rfl

def vc21 (src_0 : Int) (src_1 : Nat → Int) (dst_0 : Int) (dst_1 : Nat → Int) (b : Sl) (w : World) (R : SV → World → Prop) : Prop :=
  ∀ (b_1 b_2 b_3 : Nat),
    Br (decide ((↑b.2 : Int) > 65535))
      (∀ (w1 : World),
        Upd [] [b_3, b_2, b_1] w w1 →
          R (SV.tuple [SV.struct [SV.int IntKind.i64 0, SV.int IntKind.i64 0, SV.bool false, SV.slice { ptr := none, len := 0, cap := 0 }], SV.int IntKind.i64 2]) w1)
      (∀ (w1 : World),
        Upd [] [b_3, b_2, b_1] w w1 →
          Ret Tryd.prog 70 [SV.struct [SV.int IntKind.i64 src_0, SV.arr IntKind.u8 16 src_1], SV.struct [SV.int IntKind.i64 dst_0, SV.arr IntKind.u8 16 dst_1]] w1
            fun (r : SV) (w1_1 : World) =>
            ∃ (n : Int),
              r = SV.int IntKind.i64 n ∧
                Keeps [b_1, b_2, b_3] w1 w1_1 ∧
                  Br (n != 0)
                    (∀ (w1 : World),
                      Upd [b_3] [] w1_1 w1 →
                        R (SV.tuple [SV.struct [SV.int IntKind.i64 0, SV.int IntKind.i64 0, SV.bool false, SV.slice { ptr := none, len := 0, cap := 0 }], SV.int IntKind.i64 n]) w1)
                    (Br (decide ((↑b.2 : Int) < 8))
                      (∀ (w1 : World),
                        Upd [b_3] [] w1_1 w1 →
                          R (SV.tuple [SV.struct [SV.int IntKind.i64 0, SV.int IntKind.i64 0, SV.bool false, SV.slice { ptr := none, len := 0, cap := 0 }], SV.int IntKind.i64 91])
                            w1)
                      (∃ (f : Nat → Int),
                        (∀ (i : Nat), i < 4 → World.cell? w1_1 (Addr.add { block := 0, off := 0 } (0 + i)) = some (Value.int IntKind.i64 (f i))) ∧
                          ∀ (b_4 : Nat) (w1 : World),
                            Upd [] [b_4] w1_1 w1 →
                              (World.heap w1)[b_4]? = some (Obj.cells { toList := SV.cells (SV.arr IntKind.i64 4 f) } 117) →
                                Off b_4 [b_1, b_2, b_3] →
                                  Ret Tryd.prog 73 [SV.slice b, SV.int IntKind.i64 0, SV.slice (Sl.sub { ptr := some { block := b_4, off := 0 }, len := 4, cap := 4 } 1 0 4 4)] w1
                                    fun (r : SV) (w1_2 : World) =>
                                    ∃ (s : Sl),
                                      ∃ (n : Int),
                                        ∃ (n_1 : Int),
                                          r = SV.tuple [SV.slice s, SV.int IntKind.i64 n, SV.int IntKind.i64 n_1] ∧
                                            Keeps [b_1, b_2, b_3] w1 w1_2 ∧
                                              Need (decide (2 < (↑s.2 : Int)) && Option.isSome s.1)
                                                (∃ (n : Int),
                                                  World.cell? w1_2 (Sl.at s 1 2) = some (Value.int IntKind.i64 n) ∧
                                                    Need (decide (3 < (↑s.2 : Int)) && Option.isSome s.1)
                                                      (∃ (n_2 : Int),
                                                        World.cell? w1_2 (Sl.at s 1 3) = some (Value.int IntKind.i64 n_2) ∧
                                                          ∀ (J : Int → Int → Bool → Sl → World → Prop),
                                                            (∀ (n_3 n_4 : Int) (b_5 : Bool) (s_1 : Sl) (w1 : World),
                                                                Need (decide (0 < (↑s.2 : Int)) && Option.isSome s.1)
                                                                    (∃ (n_5 : Int),
                                                                      World.cell? w1 (Sl.at s 1 0) = some (Value.int IntKind.i64 n_5) ∧
                                                                        Need (decide (1 < (↑s.2 : Int)) && Option.isSome s.1)
                                                                          (∃ (n_6 : Int),
                                                                            World.cell? w1 (Sl.at s 1 1) = some (Value.int IntKind.i64 n_6) ∧
                                                                              Need
                                                                                (decide (0 ≤ n) && decide (n ≤ (↑b.3 : Int)) &&
                                                                                    (decide (0 ≤ n) && decide (n ≤ (↑(Int.toNat n) : Int))) &&
                                                                                  decide (8 ≤ (↑(Int.toNat n) : Int)))
                                                                                (∀ (w1_3 : World),
                                                                                  Upd [b_3] [] w1 w1_3 →
                                                                                    R
                                                                                      (SV.tuple
                                                                                        [SV.struct
                                                                                            [SV.int IntKind.i64 n_5, SV.int IntKind.i64 n_6, SV.bool (n_2 == 0),
                                                                                              SV.slice (Sl.sub b 1 8 (Int.toNat n) (Int.toNat n))],
                                                                                          SV.int IntKind.i64 0])
                                                                                      w1_3))) →
                                                                  J n_3 n_4 b_5 s_1 w1) →
                                                              Br (decide (n < 8))
                                                                (∀ (w1 : World),
                                                                  Upd [b_3] [] w1_2 w1 →
                                                                    R
                                                                      (SV.tuple
                                                                        [SV.struct
                                                                            [SV.int IntKind.i64 0, SV.int IntKind.i64 0, SV.bool false, SV.slice { ptr := none, len := 0, cap := 0 }],
                                                                          SV.int IntKind.i64 92])
                                                                      w1)
                                                                (Br (decide (n > (↑b.2 : Int)))
                                                                  (∀ (w1 : World),
                                                                    Upd [b_3] [] w1_2 w1 →
                                                                      R
                                                                        (SV.tuple
                                                                          [SV.struct
                                                                              [SV.int IntKind.i64 0, SV.int IntKind.i64 0, SV.bool false,
                                                                                SV.slice { ptr := none, len := 0, cap := 0 }],
                                                                            SV.int IntKind.i64 92])
                                                                        w1)
                                                                  (∀ (J_1 : Bool → World → Prop),
                                                                    (∀ (b : Bool) (w1 : World),
                                                                        Br b
                                                                            (∀ (w1_3 : World),
                                                                              Upd [b_3] [] w1 w1_3 →
                                                                                R
                                                                                  (SV.tuple
                                                                                    [SV.struct
                                                                                        [SV.int IntKind.i64 0, SV.int IntKind.i64 0, SV.bool false,
                                                                                          SV.slice { ptr := none, len := 0, cap := 0 }],
                                                                                      SV.int IntKind.i64 93])
                                                                                  w1_3)
                                                                            (some (SV.box b_1 27 (SV.struct [SV.int IntKind.i64 src_0, SV.arr IntKind.u8 16 src_1])) =
                                                                                some (SV.box b_1 27 (SV.struct [SV.int IntKind.i64 src_0, SV.arr IntKind.u8 16 src_1])) ∧
                                                                              some (SV.box b_2 27 (SV.struct [SV.int IntKind.i64 dst_0, SV.arr IntKind.u8 16 dst_1])) =
                                                                                  some (SV.box b_2 27 (SV.struct [SV.int IntKind.i64 dst_0, SV.arr IntKind.u8 16 dst_1])) ∧
                                                                                (b_3, 30) = (b_3, 30) ∧ J 0 0 false { ptr := none, len := 0, cap := 0 } w1) →
                                                                          J_1 b w1) →
                                                                      Br (n_2 == 0)
                                                                        (Br (src_0 == 6)
                                                                          (∀ (w1 : World),
                                                                            Upd [] [] w1_2 w1 →
                                                                              some (SV.box b_1 27 (SV.struct [SV.int IntKind.i64 src_0, SV.arr IntKind.u8 16 src_1])) =
                                                                                  some (SV.box b_1 27 (SV.struct [SV.int IntKind.i64 src_0, SV.arr IntKind.u8 16 src_1])) ∧
                                                                                some (SV.box b_2 27 (SV.struct [SV.int IntKind.i64 dst_0, SV.arr IntKind.u8 16 dst_1])) =
                                                                                    some (SV.box b_2 27 (SV.struct [SV.int IntKind.i64 dst_0, SV.arr IntKind.u8 16 dst_1])) ∧
                                                                                  some
                                                                                        (SV.box b_3 30
                                                                                          (SV.struct
                                                                                            [SV.int IntKind.i64 0, SV.int IntKind.i64 0, SV.bool false,
                                                                                              SV.slice { ptr := none, len := 0, cap := 0 }])) =
                                                                                      some
                                                                                        (SV.box b_3 30
                                                                                          (SV.struct
                                                                                            [SV.int IntKind.i64 0, SV.int IntKind.i64 0, SV.bool false,
                                                                                              SV.slice { ptr := none, len := 0, cap := 0 }])) ∧
                                                                                    J_1 true w1)
                                                                          (Br (!n_2 == 0)
                                                                            (Need (decide (0 ≤ n) && decide (n ≤ (↑b.3 : Int)))
                                                                              (∀ (w1 : World),
                                                                                Upd [] [] w1_2 w1 →
                                                                                  Ret Tryd.prog 74
                                                                                    [SV.struct [SV.int IntKind.i64 src_0, SV.arr IntKind.u8 16 src_1],
                                                                                      SV.struct [SV.int IntKind.i64 dst_0, SV.arr IntKind.u8 16 dst_1], SV.int IntKind.i64 17,
                                                                                      SV.slice (Sl.sub b 1 0 (Int.toNat n) b.3)]
                                                                                    w1 fun (r : SV) (w1_3 : World) =>
                                                                                    ∃ (b : Bool),
                                                                                      r = SV.bool b ∧
                                                                                        Keeps [b_1, b_2, b_3] w1 w1_3 ∧
                                                                                          some (SV.box b_1 27 (SV.struct [SV.int IntKind.i64 src_0, SV.arr IntKind.u8 16 src_1])) =
                                                                                              some
                                                                                                (SV.box b_1 27 (SV.struct [SV.int IntKind.i64 src_0, SV.arr IntKind.u8 16 src_1])) ∧
                                                                                            some (SV.box b_2 27 (SV.struct [SV.int IntKind.i64 dst_0, SV.arr IntKind.u8 16 dst_1])) =
                                                                                                some
                                                                                                  (SV.box b_2 27 (SV.struct [SV.int IntKind.i64 dst_0, SV.arr IntKind.u8 16 dst_1])) ∧
                                                                                              some
                                                                                                    (SV.box b_3 30
                                                                                                      (SV.struct
                                                                                                        [SV.int IntKind.i64 0, SV.int IntKind.i64 0, SV.bool false,
                                                                                                          SV.slice { ptr := none, len := 0, cap := 0 }])) =
                                                                                                  some
                                                                                                    (SV.box b_3 30
                                                                                                      (SV.struct
                                                                                                        [SV.int IntKind.i64 0, SV.int IntKind.i64 0, SV.bool false,
                                                                                                          SV.slice { ptr := none, len := 0, cap := 0 }])) ∧
                                                                                                J_1 (!b) w1_3))
                                                                            (∀ (w1 : World),
                                                                              Upd [] [] w1_2 w1 →
                                                                                some (SV.box b_1 27 (SV.struct [SV.int IntKind.i64 src_0, SV.arr IntKind.u8 16 src_1])) =
                                                                                    some (SV.box b_1 27 (SV.struct [SV.int IntKind.i64 src_0, SV.arr IntKind.u8 16 src_1])) ∧
                                                                                  some (SV.box b_2 27 (SV.struct [SV.int IntKind.i64 dst_0, SV.arr IntKind.u8 16 dst_1])) =
                                                                                      some (SV.box b_2 27 (SV.struct [SV.int IntKind.i64 dst_0, SV.arr IntKind.u8 16 dst_1])) ∧
                                                                                    some
                                                                                          (SV.box b_3 30
                                                                                            (SV.struct
                                                                                              [SV.int IntKind.i64 0, SV.int IntKind.i64 0, SV.bool false,
                                                                                                SV.slice { ptr := none, len := 0, cap := 0 }])) =
                                                                                        some
                                                                                          (SV.box b_3 30
                                                                                            (SV.struct
                                                                                              [SV.int IntKind.i64 0, SV.int IntKind.i64 0, SV.bool false,
                                                                                                SV.slice { ptr := none, len := 0, cap := 0 }])) ∧
                                                                                      J_1 false w1)))
                                                                        (Br (!n_2 == 0)
                                                                          (Need (decide (0 ≤ n) && decide (n ≤ (↑b.3 : Int)))
                                                                            (∀ (w1 : World),
                                                                              Upd [] [] w1_2 w1 →
                                                                                Ret Tryd.prog 74
                                                                                  [SV.struct [SV.int IntKind.i64 src_0, SV.arr IntKind.u8 16 src_1],
                                                                                    SV.struct [SV.int IntKind.i64 dst_0, SV.arr IntKind.u8 16 dst_1], SV.int IntKind.i64 17,
                                                                                    SV.slice (Sl.sub b 1 0 (Int.toNat n) b.3)]
                                                                                  w1 fun (r : SV) (w1_3 : World) =>
                                                                                  ∃ (b : Bool),
                                                                                    r = SV.bool b ∧
                                                                                      Keeps [b_1, b_2, b_3] w1 w1_3 ∧
                                                                                        some (SV.box b_1 27 (SV.struct [SV.int IntKind.i64 src_0, SV.arr IntKind.u8 16 src_1])) =
                                                                                            some (SV.box b_1 27 (SV.struct [SV.int IntKind.i64 src_0, SV.arr IntKind.u8 16 src_1])) ∧
                                                                                          some (SV.box b_2 27 (SV.struct [SV.int IntKind.i64 dst_0, SV.arr IntKind.u8 16 dst_1])) =
                                                                                              some
                                                                                                (SV.box b_2 27 (SV.struct [SV.int IntKind.i64 dst_0, SV.arr IntKind.u8 16 dst_1])) ∧
                                                                                            some
                                                                                                  (SV.box b_3 30
                                                                                                    (SV.struct
                                                                                                      [SV.int IntKind.i64 0, SV.int IntKind.i64 0, SV.bool false,
                                                                                                        SV.slice { ptr := none, len := 0, cap := 0 }])) =
                                                                                                some
                                                                                                  (SV.box b_3 30
                                                                                                    (SV.struct
                                                                                                      [SV.int IntKind.i64 0, SV.int IntKind.i64 0, SV.bool false,
                                                                                                        SV.slice { ptr := none, len := 0, cap := 0 }])) ∧
                                                                                              J_1 (!b) w1_3))
                                                                          (∀ (w1 : World),
                                                                            Upd [] [] w1_2 w1 →
                                                                              some (SV.box b_1 27 (SV.struct [SV.int IntKind.i64 src_0, SV.arr IntKind.u8 16 src_1])) =
                                                                                  some (SV.box b_1 27 (SV.struct [SV.int IntKind.i64 src_0, SV.arr IntKind.u8 16 src_1])) ∧
                                                                                some (SV.box b_2 27 (SV.struct [SV.int IntKind.i64 dst_0, SV.arr IntKind.u8 16 dst_1])) =
                                                                                    some (SV.box b_2 27 (SV.struct [SV.int IntKind.i64 dst_0, SV.arr IntKind.u8 16 dst_1])) ∧
                                                                                  some
                                                                                        (SV.box b_3 30
                                                                                          (SV.struct
                                                                                            [SV.int IntKind.i64 0, SV.int IntKind.i64 0, SV.bool false,
                                                                                              SV.slice { ptr := none, len := 0, cap := 0 }])) =
                                                                                      some
                                                                                        (SV.box b_3 30
                                                                                          (SV.struct
                                                                                            [SV.int IntKind.i64 0, SV.int IntKind.i64 0, SV.bool false,
                                                                                              SV.slice { ptr := none, len := 0, cap := 0 }])) ∧
                                                                                    J_1 false w1)))))))))
theorem f21_of (src_0 : Int) (src_1 : Nat → Int) (dst_0 : Int) (dst_1 : Nat → Int) (b : Sl) (w : World) (R : SV → World → Prop) (h : vc21 src_0 src_1 dst_0 dst_1 b w R) : Ret Tryd.prog 21 [.struct [.int .i64 src_0, .arr .u8 16 src_1], .struct [.int .i64 dst_0, .arr .u8 16 dst_1], .slice b] w R :=
  have e : vc21 src_0 src_1 dst_0 dst_1 b w R = fnVC X Tryd.f21 a21 [.struct [.int .i64 src_0, .arr .u8 16 src_1], .struct [.int .i64 dst_0, .arr .u8 16 dst_1], .slice b] w R := by kernel_rfl
  fnVC_sound X_ok (n := a21) (e ▸ h) (by kernel_rfl) (by kernel_rfl) rfl rfl

def vc19 (src_0 : Int) (src_1 : Nat → Int) (dst_0 : Int) (dst_1 : Nat → Int) (u_0 : Int) (u_1 : Int) (u_2 : Bool) (u_3 : Sl) (w : World) (R : SV → World → Prop) : Prop :=
  ∀ (b b_1 b_2 : Nat) (w1 : World),
    Upd [] [b_2, b_1, b] w w1 →
      Ret Tryd.prog 70 [SV.struct [SV.int IntKind.i64 src_0, SV.arr IntKind.u8 16 src_1], SV.struct [SV.int IntKind.i64 dst_0, SV.arr IntKind.u8 16 dst_1]] w1
        fun (r : SV) (w1_1 : World) =>
        ∃ (n : Int),
          r = SV.int IntKind.i64 n ∧
            Keeps [b, b_1, b_2] w1 w1_1 ∧
              ∀ (J : Int → World → Prop),
                (∀ (n : Int) (w1 : World),
                    Br (n != 0) (R (SV.tuple [SV.slice { ptr := none, len := 0, cap := 0 }, SV.int IntKind.i64 n]) w1)
                        (∃ (f : Nat → Int),
                          (∀ (i : Nat), i < 4 → World.cell? w1 (Addr.add { block := 0, off := 0 } (0 + i)) = some (Value.int IntKind.i64 (f i))) ∧
                            ∀ (b_3 : Nat) (w1_2 : World),
                              Upd [] [b_3] w1 w1_2 →
                                (World.heap w1_2)[b_3]? = some (Obj.cells { toList := SV.cells (SV.arr IntKind.i64 4 f) } 117) →
                                  Off b_3 [b, b_1, b_2] →
                                    (Upd [] [] w1_2 w1_2 ∧
                                        ∀ (b_4 : Nat) (w1 : World),
                                          Upd [] [b_4] w1_2 w1 →
                                            (World.heap w1)[b_4]? =
                                                some
                                                  (Obj.cells
                                                    {
                                                      toList :=
                                                        SV.cells
                                                          (SV.struct
                                                            [SV.int IntKind.i64 u_0, SV.int IntKind.i64 u_1, SV.int IntKind.i64 (wr IntKind.i64 (8 + (↑u_3.2 : Int))),
                                                              SV.int IntKind.i64 0]) }
                                                    3) →
                                              Ret Tryd.prog 71
                                                [SV.slice (Sl.sub { ptr := some { block := b_3, off := 0 }, len := 4, cap := 4 } 1 0 4 4),
                                                  SV.slice { ptr := some { block := b_4, off := 0 }, len := 4, cap := 4 }]
                                                w1 fun (r : SV) (w1_3 : World) =>
                                                ∃ (s : Sl),
                                                  ∃ (n : Int),
                                                    r = SV.tuple [SV.slice s, SV.int IntKind.i64 n] ∧
                                                      Keeps [b, b_1, b_2] w1 w1_3 ∧
                                                        Vc.Append 5 1 1 s u_3 [b, b_1, b_2] w1_3 fun (r : Sl) (w : World) =>
                                                          Br u_2 (R (SV.tuple [SV.slice r, SV.int IntKind.i64 0]) w)
                                                            (Ret Tryd.prog 22
                                                              [SV.struct [SV.int IntKind.i64 src_0, SV.arr IntKind.u8 16 src_1],
                                                                SV.struct [SV.int IntKind.i64 dst_0, SV.arr IntKind.u8 16 dst_1], SV.int IntKind.i64 17,
                                                                SV.int IntKind.i64 (↑r.2 : Int)]
                                                              w fun (r_1 : SV) (w1 : World) =>
                                                              ∃ (s : Sl),
                                                                ∃ (n : Int),
                                                                  r_1 = SV.tuple [SV.slice s, SV.int IntKind.i64 n] ∧
                                                                    Keeps [b, b_1, b_2] w w1 ∧
                                                                      ∀ (b_5 : Nat) (w1_4 : World),
                                                                        Upd [] [b_5] w1 w1_4 →
                                                                          (World.heap w1_4)[b_5]? = some (Obj.cells { toList := SV.cells (SV.struct [SV.slice s, SV.slice r]) } 28) →
                                                                            Ret Tryd.prog 72 [SV.slice { ptr := some { block := b_5, off := 0 }, len := 2, cap := 2 }] w1_4
                                                                              fun (r_2 : SV) (w1 : World) =>
                                                                              ∃ (n : Int),
                                                                                r_2 = SV.int IntKind.i64 n ∧
                                                                                  Keeps [b, b_1, b_2] w1_4 w1 ∧
                                                                                    ∀ (J : Int → World → Prop),
                                                                                      (∀ (n : Int) (w1 : World),
                                                                                          Need (decide (6 < (↑r.2 : Int)) && Option.isSome r.1)
                                                                                              (Store w1 (Sl.at r 1 6)
                                                                                                (SV.cells (SV.int IntKind.u8 (wr IntKind.u8 (gshr IntKind.i64 n 8)))) [b, b_1, b_2]
                                                                                                fun (w1 : World) =>
                                                                                                Need (decide (7 < (↑r.2 : Int)) && Option.isSome r.1)
                                                                                                  (Store w1 (Sl.at r 1 7) (SV.cells (SV.int IntKind.u8 (wr IntKind.u8 n)))
                                                                                                    [b, b_1, b_2] fun (w1 : World) =>
                                                                                                    R (SV.tuple [SV.slice r, SV.int IntKind.i64 0]) w1)) →
                                                                                            J n w1) →
                                                                                        Br (n == 0)
                                                                                          (some (SV.box b 27 (SV.struct [SV.int IntKind.i64 src_0, SV.arr IntKind.u8 16 src_1])) =
                                                                                              some (SV.box b 27 (SV.struct [SV.int IntKind.i64 src_0, SV.arr IntKind.u8 16 src_1])) ∧
                                                                                            some (SV.box b_1 27 (SV.struct [SV.int IntKind.i64 dst_0, SV.arr IntKind.u8 16 dst_1])) =
                                                                                                some
                                                                                                  (SV.box b_1 27 (SV.struct [SV.int IntKind.i64 dst_0, SV.arr IntKind.u8 16 dst_1])) ∧
                                                                                              some
                                                                                                    (SV.box b_2 30
                                                                                                      (SV.struct
                                                                                                        [SV.int IntKind.i64 u_0, SV.int IntKind.i64 u_1, SV.bool u_2,
                                                                                                          SV.slice u_3])) =
                                                                                                  some
                                                                                                    (SV.box b_2 30
                                                                                                      (SV.struct
                                                                                                        [SV.int IntKind.i64 u_0, SV.int IntKind.i64 u_1, SV.bool u_2,
                                                                                                          SV.slice u_3])) ∧
                                                                                                J 65535 w1)
                                                                                          (some (SV.box b 27 (SV.struct [SV.int IntKind.i64 src_0, SV.arr IntKind.u8 16 src_1])) =
                                                                                              some (SV.box b 27 (SV.struct [SV.int IntKind.i64 src_0, SV.arr IntKind.u8 16 src_1])) ∧
                                                                                            some (SV.box b_1 27 (SV.struct [SV.int IntKind.i64 dst_0, SV.arr IntKind.u8 16 dst_1])) =
                                                                                                some
                                                                                                  (SV.box b_1 27 (SV.struct [SV.int IntKind.i64 dst_0, SV.arr IntKind.u8 16 dst_1])) ∧
                                                                                              some
                                                                                                    (SV.box b_2 30
                                                                                                      (SV.struct
                                                                                                        [SV.int IntKind.i64 u_0, SV.int IntKind.i64 u_1, SV.bool u_2,
                                                                                                          SV.slice u_3])) =
                                                                                                  some
                                                                                                    (SV.box b_2 30
                                                                                                      (SV.struct
                                                                                                        [SV.int IntKind.i64 u_0, SV.int IntKind.i64 u_1, SV.bool u_2,
                                                                                                          SV.slice u_3])) ∧
                                                                                                J n w1))) ∧
                                      ∀ (b_4 : Nat) (w1 : World),
                                        Upd [] [b_4] w1_2 w1 →
                                          (World.heap w1)[b_4]? =
                                              some
                                                (Obj.cells
                                                  {
                                                    toList :=
                                                      SV.cells
                                                        (SV.struct
                                                          [SV.int IntKind.i64 u_0, SV.int IntKind.i64 u_1, SV.int IntKind.i64 (wr IntKind.i64 (8 + (↑u_3.2 : Int))),
                                                            SV.int IntKind.i64 0]) }
                                                  3) →
                                            Upd [] [] w1_2 w1 ∧
                                              Ret Tryd.prog 71
                                                [SV.slice (Sl.sub { ptr := some { block := b_3, off := 0 }, len := 4, cap := 4 } 1 0 4 4),
                                                  SV.slice { ptr := some { block := b_4, off := 0 }, len := 4, cap := 4 }]
                                                w1 fun (r : SV) (w1_3 : World) =>
                                                ∃ (s : Sl),
                                                  ∃ (n : Int),
                                                    r = SV.tuple [SV.slice s, SV.int IntKind.i64 n] ∧
                                                      Keeps [b, b_1, b_2] w1 w1_3 ∧
                                                        Vc.Append 5 1 1 s u_3 [b, b_1, b_2] w1_3 fun (r : Sl) (w : World) =>
                                                          Br u_2 (R (SV.tuple [SV.slice r, SV.int IntKind.i64 0]) w)
                                                            (Ret Tryd.prog 22
                                                              [SV.struct [SV.int IntKind.i64 src_0, SV.arr IntKind.u8 16 src_1],
                                                                SV.struct [SV.int IntKind.i64 dst_0, SV.arr IntKind.u8 16 dst_1], SV.int IntKind.i64 17,
                                                                SV.int IntKind.i64 (↑r.2 : Int)]
                                                              w fun (r_1 : SV) (w1 : World) =>
                                                              ∃ (s : Sl),
                                                                ∃ (n : Int),
                                                                  r_1 = SV.tuple [SV.slice s, SV.int IntKind.i64 n] ∧
                                                                    Keeps [b, b_1, b_2] w w1 ∧
                                                                      ∀ (b_5 : Nat) (w1_4 : World),
                                                                        Upd [] [b_5] w1 w1_4 →
                                                                          (World.heap w1_4)[b_5]? = some (Obj.cells { toList := SV.cells (SV.struct [SV.slice s, SV.slice r]) } 28) →
                                                                            Ret Tryd.prog 72 [SV.slice { ptr := some { block := b_5, off := 0 }, len := 2, cap := 2 }] w1_4
                                                                              fun (r_2 : SV) (w1 : World) =>
                                                                              ∃ (n : Int),
                                                                                r_2 = SV.int IntKind.i64 n ∧
                                                                                  Keeps [b, b_1, b_2] w1_4 w1 ∧
                                                                                    ∀ (J : Int → World → Prop),
                                                                                      (∀ (n : Int) (w1 : World),
                                                                                          Need (decide (6 < (↑r.2 : Int)) && Option.isSome r.1)
                                                                                              (Store w1 (Sl.at r 1 6)
                                                                                                (SV.cells (SV.int IntKind.u8 (wr IntKind.u8 (gshr IntKind.i64 n 8)))) [b, b_1, b_2]
                                                                                                fun (w1 : World) =>
                                                                                                Need (decide (7 < (↑r.2 : Int)) && Option.isSome r.1)
                                                                                                  (Store w1 (Sl.at r 1 7) (SV.cells (SV.int IntKind.u8 (wr IntKind.u8 n)))
                                                                                                    [b, b_1, b_2] fun (w1 : World) =>
                                                                                                    R (SV.tuple [SV.slice r, SV.int IntKind.i64 0]) w1)) →
                                                                                            J n w1) →
                                                                                        Br (n == 0)
                                                                                          (some (SV.box b 27 (SV.struct [SV.int IntKind.i64 src_0, SV.arr IntKind.u8 16 src_1])) =
                                                                                              some (SV.box b 27 (SV.struct [SV.int IntKind.i64 src_0, SV.arr IntKind.u8 16 src_1])) ∧
                                                                                            some (SV.box b_1 27 (SV.struct [SV.int IntKind.i64 dst_0, SV.arr IntKind.u8 16 dst_1])) =
                                                                                                some
                                                                                                  (SV.box b_1 27 (SV.struct [SV.int IntKind.i64 dst_0, SV.arr IntKind.u8 16 dst_1])) ∧
                                                                                              some
                                                                                                    (SV.box b_2 30
                                                                                                      (SV.struct
                                                                                                        [SV.int IntKind.i64 u_0, SV.int IntKind.i64 u_1, SV.bool u_2,
                                                                                                          SV.slice u_3])) =
                                                                                                  some
                                                                                                    (SV.box b_2 30
                                                                                                      (SV.struct
                                                                                                        [SV.int IntKind.i64 u_0, SV.int IntKind.i64 u_1, SV.bool u_2,
                                                                                                          SV.slice u_3])) ∧
                                                                                                J 65535 w1)
                                                                                          (some (SV.box b 27 (SV.struct [SV.int IntKind.i64 src_0, SV.arr IntKind.u8 16 src_1])) =
                                                                                              some (SV.box b 27 (SV.struct [SV.int IntKind.i64 src_0, SV.arr IntKind.u8 16 src_1])) ∧
                                                                                            some (SV.box b_1 27 (SV.struct [SV.int IntKind.i64 dst_0, SV.arr IntKind.u8 16 dst_1])) =
                                                                                                some
                                                                                                  (SV.box b_1 27 (SV.struct [SV.int IntKind.i64 dst_0, SV.arr IntKind.u8 16 dst_1])) ∧
                                                                                              some
                                                                                                    (SV.box b_2 30
                                                                                                      (SV.struct
                                                                                                        [SV.int IntKind.i64 u_0, SV.int IntKind.i64 u_1, SV.bool u_2,
                                                                                                          SV.slice u_3])) =
                                                                                                  some
                                                                                                    (SV.box b_2 30
                                                                                                      (SV.struct
                                                                                                        [SV.int IntKind.i64 u_0, SV.int IntKind.i64 u_1, SV.bool u_2,
                                                                                                          SV.slice u_3])) ∧
                                                                                                J n w1))) →
                      J n w1) →
                  Br (n == 0)
                    (Ret Tryd.prog 25 [SV.int IntKind.i64 src_0, SV.struct [SV.int IntKind.i64 u_0, SV.int IntKind.i64 u_1, SV.bool u_2, SV.slice u_3]] w1_1
                      fun (r : SV) (w1 : World) =>
                      ∃ (n : Int),
                        r = SV.int IntKind.i64 n ∧
                          Keeps [b, b_1, b_2] w1_1 w1 ∧
                            some (SV.box b 27 (SV.struct [SV.int IntKind.i64 src_0, SV.arr IntKind.u8 16 src_1])) =
                                some (SV.box b 27 (SV.struct [SV.int IntKind.i64 src_0, SV.arr IntKind.u8 16 src_1])) ∧
                              some (SV.box b_1 27 (SV.struct [SV.int IntKind.i64 dst_0, SV.arr IntKind.u8 16 dst_1])) =
                                  some (SV.box b_1 27 (SV.struct [SV.int IntKind.i64 dst_0, SV.arr IntKind.u8 16 dst_1])) ∧
                                some (SV.box b_2 30 (SV.struct [SV.int IntKind.i64 u_0, SV.int IntKind.i64 u_1, SV.bool u_2, SV.slice u_3])) =
                                    some (SV.box b_2 30 (SV.struct [SV.int IntKind.i64 u_0, SV.int IntKind.i64 u_1, SV.bool u_2, SV.slice u_3])) ∧
                                  J n w1)
                    (some (SV.box b 27 (SV.struct [SV.int IntKind.i64 src_0, SV.arr IntKind.u8 16 src_1])) =
                        some (SV.box b 27 (SV.struct [SV.int IntKind.i64 src_0, SV.arr IntKind.u8 16 src_1])) ∧
                      some (SV.box b_1 27 (SV.struct [SV.int IntKind.i64 dst_0, SV.arr IntKind.u8 16 dst_1])) =
                          some (SV.box b_1 27 (SV.struct [SV.int IntKind.i64 dst_0, SV.arr IntKind.u8 16 dst_1])) ∧
                        some (SV.box b_2 30 (SV.struct [SV.int IntKind.i64 u_0, SV.int IntKind.i64 u_1, SV.bool u_2, SV.slice u_3])) =
                            some (SV.box b_2 30 (SV.struct [SV.int IntKind.i64 u_0, SV.int IntKind.i64 u_1, SV.bool u_2, SV.slice u_3])) ∧
                          J n w1_1)
theorem f19_of (src_0 : Int) (src_1 : Nat → Int) (dst_0 : Int) (dst_1 : Nat → Int) (u_0 : Int) (u_1 : Int) (u_2 : Bool) (u_3 : Sl) (w : World) (R : SV → World → Prop) (h : vc19 src_0 src_1 dst_0 dst_1 u_0 u_1 u_2 u_3 w R) : Ret Tryd.prog 19 [.struct [.int .i64 src_0, .arr .u8 16 src_1], .struct [.int .i64 dst_0, .arr .u8 16 dst_1], .struct [.int .i64 u_0, .int .i64 u_1, .bool u_2, .slice u_3]] w R :=
  have e : vc19 src_0 src_1 dst_0 dst_1 u_0 u_1 u_2 u_3 w R = fnVC X Tryd.f19 a19 [.struct [.int .i64 src_0, .arr .u8 16 src_1], .struct [.int .i64 dst_0, .arr .u8 16 dst_1], .struct [.int .i64 u_0, .int .i64 u_1, .bool u_2, .slice u_3]] w R := by kernel_rfl
  fnVC_sound X_ok (n := a19) (e ▸ h) (by kernel_rfl) (by kernel_rfl) rfl rfl

def vc54 (src_0 : Int) (src_1 : Nat → Int) (dst_0 : Int) (dst_1 : Nat → Int) (u_0 : Int) (u_1 : Int) (u_2 : Bool) (u_3 : Sl) (w : World) (R : SV → World → Prop) : Prop :=
  ∀ (b b_1 b_2 : Nat) (w1 : World),
    Upd [] [b_2, b_1, b] w w1 →
      Ret Tryd.prog 83 [SV.struct [SV.int IntKind.i64 src_0, SV.arr IntKind.u8 16 src_1], SV.struct [SV.int IntKind.i64 dst_0, SV.arr IntKind.u8 16 dst_1]] w1
        fun (r : SV) (w1_1 : World) =>
        ∃ (b_3 : Bool),
          r = SV.bool b_3 ∧
            Keeps [b, b_1, b_2] w1 w1_1 ∧
              Br (!b_3) (R (SV.tuple [SV.slice { ptr := none, len := 0, cap := 0 }, SV.int IntKind.i64 20]) w1_1)
                (Ret Tryd.prog 59 [SV.int IntKind.i64 src_0, SV.struct [SV.int IntKind.i64 u_0, SV.int IntKind.i64 u_1, SV.bool u_2, SV.slice u_3]] w1_1 fun (r : SV) (w1 : World) =>
                  ∃ (n : Int),
                    r = SV.int IntKind.i64 n ∧
                      Keeps [b, b_1, b_2] w1_1 w1 ∧
                        Br (n != 0) (R (SV.tuple [SV.slice { ptr := none, len := 0, cap := 0 }, SV.int IntKind.i64 n]) w1)
                          (Ret Tryd.prog 89 [SV.slice { ptr := none, len := 0, cap := 0 }, SV.int IntKind.i64 u_0, SV.int IntKind.i64 2] w1 fun (r : SV) (w1_2 : World) =>
                            ∃ (s : Sl),
                              r = SV.slice s ∧
                                Keeps [b, b_1, b_2] w1 w1_2 ∧
                                  Ret Tryd.prog 89 [SV.slice s, SV.int IntKind.i64 u_1, SV.int IntKind.i64 2] w1_2 fun (r : SV) (w1 : World) =>
                                    ∃ (s : Sl),
                                      r = SV.slice s ∧
                                        Keeps [b, b_1, b_2] w1_2 w1 ∧
                                          Ret Tryd.prog 89 [SV.slice s, SV.int IntKind.i64 (wr IntKind.i64 (8 + (↑u_3.2 : Int))), SV.int IntKind.i64 2] w1
                                            fun (r : SV) (w1_3 : World) =>
                                            ∃ (s : Sl),
                                              r = SV.slice s ∧
                                                Keeps [b, b_1, b_2] w1 w1_3 ∧
                                                  Ret Tryd.prog 89 [SV.slice s, SV.int IntKind.i64 0, SV.int IntKind.i64 2] w1_3 fun (r : SV) (w1 : World) =>
                                                    ∃ (s : Sl),
                                                      r = SV.slice s ∧
                                                        Keeps [b, b_1, b_2] w1_3 w1 ∧
                                                          Vc.Append 5 1 1 s u_3 [b, b_1, b_2] w1 fun (r : Sl) (w : World) =>
                                                            Br u_2 (R (SV.tuple [SV.slice r, SV.int IntKind.i64 0]) w)
                                                              (Ret Tryd.prog 90
                                                                [SV.struct [SV.int IntKind.i64 src_0, SV.arr IntKind.u8 16 src_1],
                                                                  SV.struct [SV.int IntKind.i64 dst_0, SV.arr IntKind.u8 16 dst_1], SV.int IntKind.i64 17, SV.slice r]
                                                                w fun (r_1 : SV) (w1 : World) =>
                                                                ∃ (n : Int),
                                                                  r_1 = SV.int IntKind.i64 n ∧
                                                                    Keeps [b, b_1, b_2] w w1 ∧
                                                                      ∀ (J : Int → World → Prop),
                                                                        (∀ (n : Int) (w1 : World),
                                                                            Need (decide (6 < (↑r.2 : Int)) && Option.isSome r.1)
                                                                                (Store w1 (Sl.at r 1 6)
                                                                                  (SV.cells (SV.int IntKind.u8 (wr IntKind.u8 (wr IntKind.i64 (Int.tdiv n 256))))) [b, b_1, b_2]
                                                                                  fun (w1 : World) =>
                                                                                  Need (decide (7 < (↑r.2 : Int)) && Option.isSome r.1)
                                                                                    (Store w1 (Sl.at r 1 7) (SV.cells (SV.int IntKind.u8 (wr IntKind.u8 (Int.tmod n 256))))
                                                                                      [b, b_1, b_2] fun (w1 : World) => R (SV.tuple [SV.slice r, SV.int IntKind.i64 0]) w1)) →
                                                                              J n w1) →
                                                                          Br (n == 0)
                                                                            (some (SV.box b 27 (SV.struct [SV.int IntKind.i64 src_0, SV.arr IntKind.u8 16 src_1])) =
                                                                                some (SV.box b 27 (SV.struct [SV.int IntKind.i64 src_0, SV.arr IntKind.u8 16 src_1])) ∧
                                                                              some (SV.box b_1 27 (SV.struct [SV.int IntKind.i64 dst_0, SV.arr IntKind.u8 16 dst_1])) =
                                                                                  some (SV.box b_1 27 (SV.struct [SV.int IntKind.i64 dst_0, SV.arr IntKind.u8 16 dst_1])) ∧
                                                                                some
                                                                                      (SV.box b_2 30
                                                                                        (SV.struct [SV.int IntKind.i64 u_0, SV.int IntKind.i64 u_1, SV.bool u_2, SV.slice u_3])) =
                                                                                    some
                                                                                      (SV.box b_2 30
                                                                                        (SV.struct [SV.int IntKind.i64 u_0, SV.int IntKind.i64 u_1, SV.bool u_2, SV.slice u_3])) ∧
                                                                                  J 65535 w1)
                                                                            (some (SV.box b 27 (SV.struct [SV.int IntKind.i64 src_0, SV.arr IntKind.u8 16 src_1])) =
                                                                                some (SV.box b 27 (SV.struct [SV.int IntKind.i64 src_0, SV.arr IntKind.u8 16 src_1])) ∧
                                                                              some (SV.box b_1 27 (SV.struct [SV.int IntKind.i64 dst_0, SV.arr IntKind.u8 16 dst_1])) =
                                                                                  some (SV.box b_1 27 (SV.struct [SV.int IntKind.i64 dst_0, SV.arr IntKind.u8 16 dst_1])) ∧
                                                                                some
                                                                                      (SV.box b_2 30
                                                                                        (SV.struct [SV.int IntKind.i64 u_0, SV.int IntKind.i64 u_1, SV.bool u_2, SV.slice u_3])) =
                                                                                    some
                                                                                      (SV.box b_2 30
                                                                                        (SV.struct [SV.int IntKind.i64 u_0, SV.int IntKind.i64 u_1, SV.bool u_2, SV.slice u_3])) ∧
                                                                                  J n w1))))
theorem f54_of (src_0 : Int) (src_1 : Nat → Int) (dst_0 : Int) (dst_1 : Nat → Int) (u_0 : Int) (u_1 : Int) (u_2 : Bool) (u_3 : Sl) (w : World) (R : SV → World → Prop) (h : vc54 src_0 src_1 dst_0 dst_1 u_0 u_1 u_2 u_3 w R) : Ret Tryd.prog 54 [.struct [.int .i64 src_0, .arr .u8 16 src_1], .struct [.int .i64 dst_0, .arr .u8 16 dst_1], .struct [.int .i64 u_0, .int .i64 u_1, .bool u_2, .slice u_3]] w R :=
  have e : vc54 src_0 src_1 dst_0 dst_1 u_0 u_1 u_2 u_3 w R = fnVC X Tryd.f54 a54 [.struct [.int .i64 src_0, .arr .u8 16 src_1], .struct [.int .i64 dst_0, .arr .u8 16 dst_1], .struct [.int .i64 u_0, .int .i64 u_1, .bool u_2, .slice u_3]] w R := by kernel_rfl
  fnVC_sound X_ok (n := a54) (e ▸ h) (by kernel_rfl) (by kernel_rfl) rfl rfl

def vc23 (a_0 : Int) (a_1 : Int) (a_2 : Bool) (a_3 : Sl) (b_0 : Int) (b_1 : Int) (b_2 : Bool) (b_3 : Sl) (w : World) (R : SV → World → Prop) : Prop :=
  ∀ (b b_4 : Nat),
    Br (a_0 == b_0)
      (Br (a_1 == b_1)
        (Br (a_2 == b_2)
          (∀ (w1 : World),
            Upd [] [b_4, b] w w1 →
              Ret Tryd.prog 30 [SV.slice a_3, SV.slice b_3] w1 fun (r : SV) (w1_1 : World) => ∃ (b_5 : Bool), r = SV.bool b_5 ∧ Keeps [b, b_4] w1 w1_1 ∧ R (SV.bool b_5) w1_1)
          (∀ (w1 : World), Upd [] [b_4, b] w w1 → R (SV.bool false) w1))
        (∀ (w1 : World), Upd [] [b_4, b] w w1 → R (SV.bool false) w1))
      (∀ (w1 : World), Upd [] [b_4, b] w w1 → R (SV.bool false) w1)
theorem f23_of (a_0 : Int) (a_1 : Int) (a_2 : Bool) (a_3 : Sl) (b_0 : Int) (b_1 : Int) (b_2 : Bool) (b_3 : Sl) (w : World) (R : SV → World → Prop) (h : vc23 a_0 a_1 a_2 a_3 b_0 b_1 b_2 b_3 w R) : Ret Tryd.prog 23 [.struct [.int .i64 a_0, .int .i64 a_1, .bool a_2, .slice a_3], .struct [.int .i64 b_0, .int .i64 b_1, .bool b_2, .slice b_3]] w R :=
  have e : vc23 a_0 a_1 a_2 a_3 b_0 b_1 b_2 b_3 w R = fnVC X Tryd.f23 a23 [.struct [.int .i64 a_0, .int .i64 a_1, .bool a_2, .slice a_3], .struct [.int .i64 b_0, .int .i64 b_1, .bool b_2, .slice b_3]] w R := by kernel_rfl
  fnVC_sound X_ok (n := a23) (e ▸ h) (by kernel_rfl) (by kernel_rfl) rfl rfl

def vc37 (u_0 : Int) (u_1 : Int) (u_2 : Bool) (u_3 : Sl) (w : World) (R : SV → World → Prop) : Prop :=
  ∀ (b b_1 : Nat) (w1 : World),
    Upd [] [b_1, b] w w1 →
      Ret Tryd.prog 40 [SV.slice u_3] w1 fun (r : SV) (w1_1 : World) =>
        ∃ (s : Sl),
          r = SV.slice s ∧
            Keeps [b, b_1] w1 w1_1 ∧ ∀ (w1 : World), Upd [b_1, b] [] w1_1 w1 → R (SV.struct [SV.int IntKind.i64 u_0, SV.int IntKind.i64 u_1, SV.bool u_2, SV.slice s]) w1
theorem f37_of (u_0 : Int) (u_1 : Int) (u_2 : Bool) (u_3 : Sl) (w : World) (R : SV → World → Prop) (h : vc37 u_0 u_1 u_2 u_3 w R) : Ret Tryd.prog 37 [.struct [.int .i64 u_0, .int .i64 u_1, .bool u_2, .slice u_3]] w R :=
  have e : vc37 u_0 u_1 u_2 u_3 w R = fnVC X Tryd.f37 a37 [.struct [.int .i64 u_0, .int .i64 u_1, .bool u_2, .slice u_3]] w R := by kernel_rfl
  fnVC_sound X_ok (n := a37) (e ▸ h) (by kernel_rfl) (by kernel_rfl) rfl rfl

end Go.Vc.S9
end

section
open Go Go.Vc Go.Vc.S9 Go.Proofs
set_option maxRecDepth 100000
set_option linter.unusedVariables false
namespace Go.Vc.S9
def vc101 (n : Int) (w : World) (R : SV → World → Prop) : Prop :=
  ∃ (I : Int → World → Prop),
    ∃ (M : Int → World → Nat),
      I n w ∧
        ∀ (n : Int) (w1 : World),
          I n w1 →
            Br (decide (n > 65535))
              (I (wr IntKind.i64 (iand IntKind.i64 n 65535 + gshr IntKind.i64 n 16)) w1 ∧ M (wr IntKind.i64 (iand IntKind.i64 n 65535 + gshr IntKind.i64 n 16)) w1 < M n w1)
              (R (SV.int IntKind.i64 n) w1)
theorem f101_of (n : Int) (w : World) (R : SV → World → Prop) (h : vc101 n w R) : Ret Tryd.prog 101 [.int .i64 n] w R :=
  have e : vc101 n w R = fnVC X Tryd.f101 a101 [.int .i64 n] w R := by kernel_rfl
  fnVC_sound X_ok (n := a101) (e ▸ h) (by kernel_rfl) (by kernel_rfl) rfl rfl

def vc76 (parts : Sl) (w : World) (R : SV → World → Prop) : Prop :=
  ∃ (I : Int → Bool → Int → World → Prop),
    ∃ (M : Int → Bool → Int → World → Nat),
      I 0 true 0 w ∧
        ∀ (n : Int) (b : Bool) (n_1 : Int) (w1 : World),
          I n b n_1 w1 →
            Br (decide (n_1 < (↑parts.2 : Int)))
              (Need (decide (0 ≤ n_1) && decide (n_1 < (↑parts.2 : Int)) && Option.isSome parts.1)
                (∃ (s : Sl),
                  World.cell? w1 (Sl.at parts 1 (Int.toNat n_1)) = some (Sl.val s) ∧
                    ∃ (I_1 : Int → Bool → Int → World → Prop),
                      ∃ (M_1 : Int → Bool → Int → World → Nat),
                        I_1 n b 0 w1 ∧
                          ∀ (n_2 : Int) (b_1 : Bool) (n_3 : Int) (w1_1 : World),
                            I_1 n_2 b_1 n_3 w1_1 →
                              Br (decide (n_3 < (↑s.2 : Int)))
                                (Need (decide (0 ≤ n_3) && decide (n_3 < (↑s.2 : Int)) && Option.isSome s.1)
                                  (∃ (n : Int),
                                    World.cell? w1_1 (Sl.at s 1 (Int.toNat n_3)) = some (Value.int IntKind.u8 n) ∧
                                      ∀ (J : Int → World → Prop),
                                        (∀ (n : Int) (w1 : World),
                                            I_1 n (!b_1) (wr IntKind.i64 (n_3 + 1)) w1 ∧ M_1 n (!b_1) (wr IntKind.i64 (n_3 + 1)) w1 < M_1 n_2 b_1 n_3 w1_1 → J n w1) →
                                          Br b_1 (J (wr IntKind.i64 (n_2 + gshl IntKind.i64 (wr IntKind.i64 n) 8)) w1_1) (J (wr IntKind.i64 (n_2 + wr IntKind.i64 n)) w1_1)))
                                (Ret Tryd.prog 101 [SV.int IntKind.i64 n_2] w1_1 fun (r : SV) (w1_2 : World) =>
                                  ∃ (n_4 : Int), r = SV.int IntKind.i64 n_4 ∧ I n_4 b_1 (wr IntKind.i64 (n_1 + 1)) w1_2 ∧ M n_4 b_1 (wr IntKind.i64 (n_1 + 1)) w1_2 < M n b n_1 w1)))
              (R (SV.int IntKind.i64 n) w1)
theorem f76_of (parts : Sl) (w : World) (R : SV → World → Prop) (h : vc76 parts w R) : Ret Tryd.prog 76 [.slice parts] w R :=
  have e : vc76 parts w R = fnVC X Tryd.f76 a76 [.slice parts] w R := by kernel_rfl
  fnVC_sound X_ok (n := a76) (e ▸ h) (by kernel_rfl) (by kernel_rfl) rfl rfl

def vc72 (parts : Sl) (w : World) (R : SV → World → Prop) : Prop :=
  Ret Tryd.prog 76 [SV.slice parts] w fun (r : SV) (w1 : World) => ∃ (n : Int), r = SV.int IntKind.i64 n ∧ R (SV.int IntKind.i64 (wr IntKind.i64 (65535 - n))) w1
theorem f72_of (parts : Sl) (w : World) (R : SV → World → Prop) (h : vc72 parts w R) : Ret Tryd.prog 72 [.slice parts] w R :=
  have e : vc72 parts w R = fnVC X Tryd.f72 a72 [.slice parts] w R := by kernel_rfl
  fnVC_sound X_ok (n := a72) (e ▸ h) (by kernel_rfl) (by kernel_rfl) rfl rfl

def vc24 (parts : Sl) (w : World) (R : SV → World → Prop) : Prop :=
  Ret Tryd.prog 76 [SV.slice parts] w fun (r : SV) (w1 : World) => ∃ (n : Int), r = SV.int IntKind.i64 n ∧ R (SV.bool (n == 65535)) w1
theorem f24_of (parts : Sl) (w : World) (R : SV → World → Prop) (h : vc24 parts w R) : Ret Tryd.prog 24 [.slice parts] w R :=
  have e : vc24 parts w R = fnVC X Tryd.f24 a24 [.slice parts] w R := by kernel_rfl
  fnVC_sound X_ok (n := a24) (e ▸ h) (by kernel_rfl) (by kernel_rfl) rfl rfl

def vc106 (parts : Sl) (w : World) (R : SV → World → Prop) : Prop :=
  ∃ (I : Int → Int → Int → World → Prop),
    ∃ (M : Int → Int → Int → World → Nat),
      I 0 0 0 w ∧
        ∀ (n n_1 n_2 : Int) (w1 : World),
          I n n_1 n_2 w1 →
            Br (decide (n_2 < (↑parts.2 : Int)))
              (∃ (I_1 : Int → Int → Int → World → Prop),
                ∃ (M_1 : Int → Int → Int → World → Nat),
                  I_1 n n_1 0 w1 ∧
                    ∀ (n_3 n_4 n_5 : Int) (w1_1 : World),
                      I_1 n_3 n_4 n_5 w1_1 →
                        Need (decide (0 ≤ n_2) && decide (n_2 < (↑parts.2 : Int)) && Option.isSome parts.1)
                          (∃ (s : Sl),
                            World.cell? w1_1 (Sl.at parts 1 (Int.toNat n_2)) = some (Sl.val s) ∧
                              Br (decide (n_5 < (↑s.2 : Int)))
                                (∀ (J : Int → Int → World → Prop),
                                  (∀ (n n_6 : Int) (w1 : World),
                                      I_1 n n_6 (wr IntKind.i64 (n_5 + 1)) w1 ∧ M_1 n n_6 (wr IntKind.i64 (n_5 + 1)) w1 < M_1 n_3 n_4 n_5 w1_1 → J n n_6 w1) →
                                    Need (decide (0 ≤ n_2) && decide (n_2 < (↑parts.2 : Int)) && Option.isSome parts.1)
                                      (∃ (s : Sl),
                                        World.cell? w1_1 (Sl.at parts 1 (Int.toNat n_2)) = some (Sl.val s) ∧
                                          Need (decide (0 ≤ n_5) && decide (n_5 < (↑s.2 : Int)) && Option.isSome s.1)
                                            (∃ (n : Int),
                                              World.cell? w1_1 (Sl.at s 1 (Int.toNat n_5)) = some (Value.int IntKind.u8 n) ∧
                                                ∀ (J_1 : Int → World → Prop),
                                                  (∀ (n : Int) (w1 : World), J (wr IntKind.i64 (n_3 + 1)) (wr IntKind.i64 (n_4 + n)) w1 → J_1 n w1) →
                                                    Br (Int.tmod n_3 2 == 0) (J_1 (wr IntKind.i64 (wr IntKind.i64 n * 256)) w1_1) (J_1 (wr IntKind.i64 n) w1_1))))
                                (I n_3 n_4 (wr IntKind.i64 (n_2 + 1)) w1_1 ∧ M n_3 n_4 (wr IntKind.i64 (n_2 + 1)) w1_1 < M n n_1 n_2 w1)))
              (Ret Tryd.prog 107 [SV.int IntKind.i64 n_1] w1 fun (r : SV) (w1 : World) => ∃ (n : Int), r = SV.int IntKind.i64 n ∧ R (SV.int IntKind.i64 n) w1)
theorem f106_of (parts : Sl) (w : World) (R : SV → World → Prop) (h : vc106 parts w R) : Ret Tryd.prog 106 [.slice parts] w R :=
  have e : vc106 parts w R = fnVC X Tryd.f106 a106 [.slice parts] w R := by kernel_rfl
  fnVC_sound X_ok (n := a106) (e ▸ h) (by kernel_rfl) (by kernel_rfl) rfl rfl

def vc107 (n : Int) (w : World) (R : SV → World → Prop) : Prop :=
  Br (n == 0) (R (SV.int IntKind.i64 0) w) (R (SV.int IntKind.i64 (wr IntKind.i64 (Int.tmod (wr IntKind.i64 (n - 1)) 65535 + 1))) w)
theorem f107_of (n : Int) (w : World) (R : SV → World → Prop) (h : vc107 n w R) : Ret Tryd.prog 107 [.int .i64 n] w R :=
  have e : vc107 n w R = fnVC X Tryd.f107 a107 [.int .i64 n] w R := by kernel_rfl
  fnVC_sound X_ok (n := a107) (e ▸ h) (by kernel_rfl) (by kernel_rfl) rfl rfl

def vc104 (parts : Sl) (w : World) (R : SV → World → Prop) : Prop :=
  Ret Tryd.prog 106 [SV.slice parts] w fun (r : SV) (w1 : World) => ∃ (n : Int), r = SV.int IntKind.i64 n ∧ R (SV.int IntKind.i64 (wr IntKind.i64 (65535 - n))) w1
theorem f104_of (parts : Sl) (w : World) (R : SV → World → Prop) (h : vc104 parts w R) : Ret Tryd.prog 104 [.slice parts] w R :=
  have e : vc104 parts w R = fnVC X Tryd.f104 a104 [.slice parts] w R := by kernel_rfl
  fnVC_sound X_ok (n := a104) (e ▸ h) (by kernel_rfl) (by kernel_rfl) rfl rfl

def vc97 (widths : Sl) (w : World) (R : SV → World → Prop) : Prop :=
  Br (decide ((↑widths.2 : Int) > 64)) (R (SV.tuple [SV.int IntKind.i64 0, SV.int IntKind.i64 11]) w)
    (∃ (I : Int → Int → World → Prop),
      ∃ (M : Int → Int → World → Nat),
        I 0 0 w ∧
          ∀ (n n_1 : Int) (w1 : World),
            I n n_1 w1 →
              Br (decide (n_1 < (↑widths.2 : Int)))
                (Need (decide (0 ≤ n_1) && decide (n_1 < (↑widths.2 : Int)) && Option.isSome widths.1)
                  (∃ (n_2 : Int),
                    World.cell? w1 (Sl.at widths 1 (Int.toNat n_1)) = some (Value.int IntKind.i64 n_2) ∧
                      ∀ (J : World → Prop),
                        (∀ (w1_1 : World),
                            I (wr IntKind.i64 (n + n_2)) (wr IntKind.i64 (n_1 + 1)) w1_1 ∧ M (wr IntKind.i64 (n + n_2)) (wr IntKind.i64 (n_1 + 1)) w1_1 < M n n_1 w1 → J w1_1) →
                          Br (decide (n_2 < 1)) (R (SV.tuple [SV.int IntKind.i64 0, SV.int IntKind.i64 11]) w1)
                            (Br (decide (n_2 > 32)) (R (SV.tuple [SV.int IntKind.i64 0, SV.int IntKind.i64 11]) w1) (J w1))))
                (Br (Int.tmod n 8 != 0) (R (SV.tuple [SV.int IntKind.i64 0, SV.int IntKind.i64 11]) w1)
                  (R (SV.tuple [SV.int IntKind.i64 (wr IntKind.i64 (Int.tdiv n 8)), SV.int IntKind.i64 0]) w1)))
theorem f97_of (widths : Sl) (w : World) (R : SV → World → Prop) (h : vc97 widths w R) : Ret Tryd.prog 97 [.slice widths] w R :=
  have e : vc97 widths w R = fnVC X Tryd.f97 a97 [.slice widths] w R := by kernel_rfl
  fnVC_sound X_ok (n := a97) (e ▸ h) (by kernel_rfl) (by kernel_rfl) rfl rfl

def vc99 (b : Sl) (p1 : Int) (n : Int) (w : World) (R : SV → World → Prop) : Prop :=
  ∀ (J : World → Prop),
    (∀ (w1 : World),
        Need
            (decide (0 ≤ wr IntKind.i64 (p1 + n)) && decide (wr IntKind.i64 (p1 + n) ≤ (↑b.3 : Int)) &&
                (decide (0 ≤ wr IntKind.i64 (p1 + n)) && decide (wr IntKind.i64 (p1 + n) ≤ (↑(Int.toNat (wr IntKind.i64 (p1 + n))) : Int))) &&
              (decide (0 ≤ p1) && decide (p1 ≤ (↑(Int.toNat (wr IntKind.i64 (p1 + n))) : Int))))
            (R (SV.slice (Sl.sub b 1 (Int.toNat p1) (Int.toNat (wr IntKind.i64 (p1 + n))) (Int.toNat (wr IntKind.i64 (p1 + n))))) w1) →
          J w1) →
      Br (decide (p1 < 0)) False (Br (decide (p1 > (↑b.2 : Int))) False (Br (decide (n > wr IntKind.i64 ((↑b.2 : Int) - p1))) False (J w)))
theorem f99_of (b : Sl) (p1 : Int) (n : Int) (w : World) (R : SV → World → Prop) (h : vc99 b p1 n w R) : Ret Tryd.prog 99 [.slice b, .int .i64 p1, .int .i64 n] w R :=
  have e : vc99 b p1 n w R = fnVC X Tryd.f99 a99 [.slice b, .int .i64 p1, .int .i64 n] w R := by kernel_rfl
  fnVC_sound X_ok (n := a99) (e ▸ h) (by kernel_rfl) (by kernel_rfl) rfl rfl

def vc100 (b : Sl) (i : Int) (w : World) (R : SV → World → Prop) : Prop :=
  ∀ (J : World → Prop),
    (∀ (w1 : World),
        Need (decide (0 ≤ i) && decide (i < (↑b.2 : Int)) && Option.isSome b.1)
            (∃ (n : Int), World.cell? w1 (Sl.at b 1 (Int.toNat i)) = some (Value.int IntKind.u8 n) ∧ R (SV.int IntKind.u8 n) w1) →
          J w1) →
      Br (decide (i < 0)) False (Br (decide (i ≥ (↑b.2 : Int))) False (J w))
theorem f100_of (b : Sl) (i : Int) (w : World) (R : SV → World → Prop) (h : vc100 b i w R) : Ret Tryd.prog 100 [.slice b, .int .i64 i] w R :=
  have e : vc100 b i w R = fnVC X Tryd.f100 a100 [.slice b, .int .i64 i] w R := by kernel_rfl
  fnVC_sound X_ok (n := a100) (e ▸ h) (by kernel_rfl) (by kernel_rfl) rfl rfl

def vc73 (b : Sl) (p1 : Int) (widths : Sl) (w : World) (R : SV → World → Prop) : Prop :=
  ∀ (b_1 b_2 b_3 : Nat) (w1 : World),
    Upd [] [b_3, b_2, b_1] w w1 →
      Ret Tryd.prog 97 [SV.slice widths] w1 fun (r : SV) (w1_1 : World) =>
        ∃ (n : Int),
          ∃ (n_1 : Int),
            r = SV.tuple [SV.int IntKind.i64 n, SV.int IntKind.i64 n_1] ∧
              Keeps [b_1, b_2, b_3] w1 w1_1 ∧
                Br (n_1 != 0) (∀ (w1 : World), Upd [b_3] [] w1_1 w1 → ∃ (bs : List Nat), (∀ (b : Nat), b ∈ bs → b < List.length (World.heap w1).1) ∧ False)
                  (∀ (w1 : World),
                    Upd [b_3] [] w1_1 w1 →
                      (World.heap w1)[b_1]? = some (Obj.cells { toList := SV.cells (SV.slice { ptr := none, len := 0, cap := 0 }) } 119) →
                        Off b_1 [b_2, b_3] →
                          (World.heap w1)[b_2]? = some (Obj.cells { toList := SV.cells (SV.int IntKind.i64 0) } 3) →
                            Off b_2 [b_3] →
                              (World.heap w1)[b_3]? = some (Obj.cells { toList := SV.cells (SV.int IntKind.i64 n_1) } 32) →
                                Ret Tryd.prog 99 [SV.slice b, SV.int IntKind.i64 p1, SV.int IntKind.i64 n] w1 fun (r : SV) (w1 : World) =>
                                  ∃ (s : Sl),
                                    r = SV.slice s ∧
                                      ∃ (I : Int → Int → World → Prop),
                                        ∃ (M : Int → Int → World → Nat),
                                          I 0 0 w1 ∧
                                            ∀ (n_2 n_3 : Int) (w1 : World),
                                              I n_2 n_3 w1 →
                                                Br (decide (n_3 < (↑widths.2 : Int)))
                                                  (Need (decide (0 ≤ n_3) && decide (n_3 < (↑widths.2 : Int)) && Option.isSome widths.1)
                                                    (∃ (n : Int),
                                                      World.cell? w1 (Sl.at widths 1 (Int.toNat n_3)) = some (Value.int IntKind.i64 n) ∧
                                                        ∃ (I_1 : Int → Int → Int → World → Prop),
                                                          ∃ (M_1 : Int → Int → Int → World → Nat),
                                                            I_1 n_2 0 0 w1 ∧
                                                              ∀ (n_4 n_5 n_6 : Int) (w1_2 : World),
                                                                I_1 n_4 n_5 n_6 w1_2 →
                                                                  Br (decide (n_6 < n))
                                                                    (Ret Tryd.prog 100 [SV.slice s, SV.int IntKind.i64 (wr IntKind.i64 (Int.tdiv n_4 8))] w1_2
                                                                      fun (r : SV) (w1 : World) =>
                                                                      ∃ (n : Int),
                                                                        r = SV.int IntKind.u8 n ∧
                                                                          Need (decide (0 ≤ wr IntKind.u64 (7 - wr IntKind.u64 (Int.tmod n_4 8))))
                                                                            (I_1 (wr IntKind.i64 (n_4 + 1))
                                                                                (ior IntKind.i64 (gshl IntKind.i64 n_5 1)
                                                                                  (wr IntKind.i64
                                                                                    (iand IntKind.u8 (gshr IntKind.u8 n (wr IntKind.u64 (7 - wr IntKind.u64 (Int.tmod n_4 8)))) 1)))
                                                                                (wr IntKind.i64 (n_6 + 1)) w1 ∧
                                                                              M_1 (wr IntKind.i64 (n_4 + 1))
                                                                                  (ior IntKind.i64 (gshl IntKind.i64 n_5 1)
                                                                                    (wr IntKind.i64
                                                                                      (iand IntKind.u8 (gshr IntKind.u8 n (wr IntKind.u64 (7 - wr IntKind.u64 (Int.tmod n_4 8)))) 1)))
                                                                                  (wr IntKind.i64 (n_6 + 1)) w1 <
                                                                                M_1 n_4 n_5 n_6 w1_2))
                                                                    (∃ (s : Sl),
                                                                      World.cell? w1_2 { block := b_1, off := 0 } = some (Sl.val s) ∧
                                                                        ∀ (b : Nat) (w1_3 : World),
                                                                          Upd [] [b] w1_2 w1_3 →
                                                                            (World.heap w1_3)[b]? = some (Obj.cells { toList := SV.cells (SV.struct [SV.int IntKind.i64 n_5]) } 3) →
                                                                              Vc.Append 3 1 8 s { ptr := some { block := b, off := 0 }, len := 1, cap := 1 } [] w1_3
                                                                                fun (r : Sl) (w : World) =>
                                                                                Store w { block := b_1, off := 0 } (SV.cells (SV.slice r)) [] fun (w1_4 : World) =>
                                                                                  I n_4 (wr IntKind.i64 (n_3 + 1)) w1_4 ∧ M n_4 (wr IntKind.i64 (n_3 + 1)) w1_4 < M n_2 n_3 w1)))
                                                  (∃ (s : Sl),
                                                    World.cell? w1 { block := b_1, off := 0 } = some (Sl.val s) ∧
                                                      Store w1 { block := b_1, off := 0 } (SV.cells (SV.slice s)) [] fun (w1 : World) =>
                                                        Store w1 { block := b_2, off := 0 } (SV.cells (SV.int IntKind.i64 (wr IntKind.i64 (p1 + n)))) [] fun (w1 : World) =>
                                                          Store w1 { block := b_3, off := 0 } (SV.cells (SV.int IntKind.i64 0)) [] fun (w1 : World) =>
                                                            RetD Tryd.prog 98
                                                              [SV.ptr (some { block := b_1, off := 0 }), SV.ptr (some { block := b_2, off := 0 }),
                                                                SV.ptr (some { block := b_3, off := 0 })]
                                                              w1 fun (w1 : World) =>
                                                              ∃ (s : Sl),
                                                                World.cell? w1 { block := b_1, off := 0 } = some (Sl.val s) ∧
                                                                  ∃ (n : Int),
                                                                    World.cell? w1 { block := b_2, off := 0 } = some (Value.int IntKind.i64 n) ∧
                                                                      ∃ (n_4 : Int),
                                                                        World.cell? w1 { block := b_3, off := 0 } = some (Value.int IntKind.i64 n_4) ∧
                                                                          R (SV.tuple [SV.slice s, SV.int IntKind.i64 n, SV.int IntKind.i64 n_4]) w1))
theorem f73_of (b : Sl) (p1 : Int) (widths : Sl) (w : World) (R : SV → World → Prop) (h : vc73 b p1 widths w R) : Ret Tryd.prog 73 [.slice b, .int .i64 p1, .slice widths] w R :=
  have e : vc73 b p1 widths w R = fnVCD X Tryd.f73 a73 [.slice b, .int .i64 p1, .slice widths] w R := by kernel_rfl
  fnVCD_sound X_ok (n := a73) (e ▸ h) (by kernel_rfl) (by kernel_rfl) rfl rfl

def vc71 (widths : Sl) (values : Sl) (w : World) (R : SV → World → Prop) : Prop :=
  Ret Tryd.prog 97 [SV.slice widths] w fun (r : SV) (w1 : World) =>
    ∃ (n : Int),
      ∃ (n_1 : Int),
        r = SV.tuple [SV.int IntKind.i64 n, SV.int IntKind.i64 n_1] ∧
          Br (n_1 != 0) (R (SV.tuple [SV.slice { ptr := none, len := 0, cap := 0 }, SV.int IntKind.i64 n_1]) w1)
            (Br ((↑values.2 : Int) != (↑widths.2 : Int)) (R (SV.tuple [SV.slice { ptr := none, len := 0, cap := 0 }, SV.int IntKind.i64 1]) w1)
              (Need (decide (0 ≤ n) && decide (n ≤ n) && decide (n ≤ 281474976710656) && decide (1 * n ≤ 281474976710656))
                (∀ (b : Nat) (w1_1 : World),
                  Upd [] [b] w1 w1_1 →
                    (World.heap w1_1)[b]? = some (Obj.cells { toList := zerosOf (Ty.int IntKind.u8) (Int.toNat n) } 5) →
                      ∃ (I : Int → Int → World → Prop),
                        ∃ (M : Int → Int → World → Nat),
                          I 0 0 w1_1 ∧
                            ∀ (n_2 n_3 : Int) (w1 : World),
                              I n_2 n_3 w1 →
                                Br (decide (n_3 < (↑widths.2 : Int)))
                                  (Need (decide (0 ≤ n_3) && decide (n_3 < (↑widths.2 : Int)) && Option.isSome widths.1)
                                    (∃ (n_4 : Int),
                                      World.cell? w1 (Sl.at widths 1 (Int.toNat n_3)) = some (Value.int IntKind.i64 n_4) ∧
                                        Need (decide (0 ≤ n_3) && decide (n_3 < (↑values.2 : Int)) && Option.isSome values.1)
                                          (∃ (n_5 : Int),
                                            World.cell? w1 (Sl.at values 1 (Int.toNat n_3)) = some (Value.int IntKind.i64 n_5) ∧
                                              ∀ (J : World → Prop),
                                                (∀ (w1_2 : World),
                                                    (∃ (I_1 : Int → Int → World → Prop),
                                                        ∃ (M_1 : Int → Int → World → Nat),
                                                          I_1 n_2 (wr IntKind.i64 (n_4 - 1)) w1_2 ∧
                                                            ∀ (n_6 n_7 : Int) (w1_3 : World),
                                                              I_1 n_6 n_7 w1_3 →
                                                                Br (decide (n_7 ≥ 0))
                                                                  (Need
                                                                    (decide (0 ≤ wr IntKind.i64 (Int.tdiv n_6 8)) &&
                                                                        decide (wr IntKind.i64 (Int.tdiv n_6 8) < (↑(Int.toNat n) : Int)) &&
                                                                      true)
                                                                    (∃ (n_8 : Int),
                                                                      World.cell? w1_3
                                                                            (Sl.at { ptr := some { block := b, off := 0 }, len := Int.toNat n, cap := Int.toNat n } 1
                                                                              (Int.toNat (wr IntKind.i64 (Int.tdiv n_6 8)))) =
                                                                          some (Value.int IntKind.u8 n_8) ∧
                                                                        Need (decide (0 ≤ wr IntKind.u64 n_7))
                                                                          (Need (decide (0 ≤ wr IntKind.u64 (7 - wr IntKind.u64 (Int.tmod n_6 8))))
                                                                            (Need
                                                                              (decide (0 ≤ wr IntKind.i64 (Int.tdiv n_6 8)) &&
                                                                                  decide (wr IntKind.i64 (Int.tdiv n_6 8) < (↑(Int.toNat n) : Int)) &&
                                                                                true)
                                                                              (Store w1_3
                                                                                (Sl.at { ptr := some { block := b, off := 0 }, len := Int.toNat n, cap := Int.toNat n } 1
                                                                                  (Int.toNat (wr IntKind.i64 (Int.tdiv n_6 8))))
                                                                                (SV.cells
                                                                                  (SV.int IntKind.u8
                                                                                    (ior IntKind.u8 n_8
                                                                                      (gshl IntKind.u8
                                                                                        (wr IntKind.u8 (iand IntKind.i64 (gshr IntKind.i64 n_5 (wr IntKind.u64 n_7)) 1))
                                                                                        (wr IntKind.u64 (7 - wr IntKind.u64 (Int.tmod n_6 8)))))))
                                                                                [] fun (w1 : World) =>
                                                                                I_1 (wr IntKind.i64 (n_6 + 1)) (wr IntKind.i64 (n_7 - 1)) w1 ∧
                                                                                  M_1 (wr IntKind.i64 (n_6 + 1)) (wr IntKind.i64 (n_7 - 1)) w1 < M_1 n_6 n_7 w1_3)))))
                                                                  (I n_6 (wr IntKind.i64 (n_3 + 1)) w1_3 ∧ M n_6 (wr IntKind.i64 (n_3 + 1)) w1_3 < M n_2 n_3 w1)) →
                                                      J w1_2) →
                                                  Br (decide (n_5 < 0)) (R (SV.tuple [SV.slice { ptr := none, len := 0, cap := 0 }, SV.int IntKind.i64 12]) w1)
                                                    (Need (decide (0 ≤ wr IntKind.u64 n_4))
                                                      (Br (gshr IntKind.i64 n_5 (wr IntKind.u64 n_4) != 0)
                                                        (R (SV.tuple [SV.slice { ptr := none, len := 0, cap := 0 }, SV.int IntKind.i64 12]) w1) (J w1))))))
                                  (R (SV.tuple [SV.slice { ptr := some { block := b, off := 0 }, len := Int.toNat n, cap := Int.toNat n }, SV.int IntKind.i64 0]) w1))))
theorem f71_of (widths : Sl) (values : Sl) (w : World) (R : SV → World → Prop) (h : vc71 widths values w R) : Ret Tryd.prog 71 [.slice widths, .slice values] w R :=
  have e : vc71 widths values w R = fnVC X Tryd.f71 a71 [.slice widths, .slice values] w R := by kernel_rfl
  fnVC_sound X_ok (n := a71) (e ▸ h) (by kernel_rfl) (by kernel_rfl) rfl rfl

def vc75 (ip_0 : Int) (ip_1 : Nat → Int) (w : World) (R : SV → World → Prop) : Prop :=
  ∀ (b : Nat),
    Br (ip_0 == 6) (∀ (w1 : World), Upd [] [b] w w1 → R (SV.int IntKind.i64 6) w1)
      (Br (ip_0 != 4) (∀ (w1 : World), Upd [] [b] w w1 → R (SV.int IntKind.i64 0) w1)
        (∀ (b_1 : Nat),
          Br (!eqArr 16 ip_1 (fset (fset (fset (fset (fun (x : Nat) => 0) 0 (ip_1 0)) 1 (ip_1 1)) 2 (ip_1 2)) 3 (ip_1 3)))
            (∀ (w1 : World), Upd [] [b_1, b] w w1 → R (SV.int IntKind.i64 0) w1) (∀ (w1 : World), Upd [] [b_1, b] w w1 → R (SV.int IntKind.i64 4) w1)))
theorem f75_of (ip_0 : Int) (ip_1 : Nat → Int) (w : World) (R : SV → World → Prop) (h : vc75 ip_0 ip_1 w R) : Ret Tryd.prog 75 [.struct [.int .i64 ip_0, .arr .u8 16 ip_1]] w R :=
  have e : vc75 ip_0 ip_1 w R = fnVC X Tryd.f75 a75 [.struct [.int .i64 ip_0, .arr .u8 16 ip_1]] w R := by kernel_rfl
  fnVC_sound X_ok (n := a75) (e ▸ h) (by kernel_rfl) (by kernel_rfl) rfl rfl

def vc22 (src_0 : Int) (src_1 : Nat → Int) (dst_0 : Int) (dst_1 : Nat → Int) (proto : Int) (n : Int) (w : World) (R : SV → World → Prop) : Prop :=
  ∀ (b b_1 : Nat) (w1 : World),
    Upd [] [b_1, b] w w1 →
      Ret Tryd.prog 75 [SV.struct [SV.int IntKind.i64 src_0, SV.arr IntKind.u8 16 src_1]] w1 fun (r : SV) (w1_1 : World) =>
        ∃ (n_1 : Int),
          r = SV.int IntKind.i64 n_1 ∧
            Keeps [b, b_1] w1 w1_1 ∧
              ∀ (J : World → Prop),
                (∀ (w1 : World),
                    Br (n_1 == 4)
                        ((World.heap w1)[b]? = some (Obj.cells { toList := SV.cells (SV.struct [SV.int IntKind.i64 src_0, SV.arr IntKind.u8 16 src_1]) } 27) →
                          Off b [b_1] →
                            Vc.Append 5 1 1 { ptr := none, len := 0, cap := 0 } (Sl.sub { ptr := some { block := b, off := 1 }, len := 16, cap := 16 } 1 0 4 16) [b_1] w1
                              fun (r : Sl) (w : World) =>
                              (World.heap w)[b_1]? = some (Obj.cells { toList := SV.cells (SV.struct [SV.int IntKind.i64 dst_0, SV.arr IntKind.u8 16 dst_1]) } 27) →
                                Vc.Append 5 1 1 r (Sl.sub { ptr := some { block := b_1, off := 1 }, len := 16, cap := 16 } 1 0 4 16) [] w fun (r : Sl) (w : World) =>
                                  ∀ (b : Nat) (w1 : World),
                                    Upd [] [b] w w1 →
                                      (World.heap w1)[b]? =
                                          some
                                            (Obj.cells
                                              {
                                                toList :=
                                                  SV.cells
                                                    (SV.struct
                                                      [SV.int IntKind.u8 0, SV.int IntKind.u8 (wr IntKind.u8 proto), SV.int IntKind.u8 (wr IntKind.u8 (gshr IntKind.i64 n 8)),
                                                        SV.int IntKind.u8 (wr IntKind.u8 n)]) }
                                              5) →
                                        Vc.Append 5 1 1 r { ptr := some { block := b, off := 0 }, len := 4, cap := 4 } [] w1 fun (r : Sl) (w : World) =>
                                          R (SV.tuple [SV.slice r, SV.int IntKind.i64 0]) w)
                        ((World.heap w1)[b]? = some (Obj.cells { toList := SV.cells (SV.struct [SV.int IntKind.i64 src_0, SV.arr IntKind.u8 16 src_1]) } 27) →
                          Off b [b_1] →
                            Vc.Append 5 1 1 { ptr := none, len := 0, cap := 0 } (Sl.sub { ptr := some { block := b, off := 1 }, len := 16, cap := 16 } 1 0 16 16) [b_1] w1
                              fun (r : Sl) (w : World) =>
                              (World.heap w)[b_1]? = some (Obj.cells { toList := SV.cells (SV.struct [SV.int IntKind.i64 dst_0, SV.arr IntKind.u8 16 dst_1]) } 27) →
                                Vc.Append 5 1 1 r (Sl.sub { ptr := some { block := b_1, off := 1 }, len := 16, cap := 16 } 1 0 16 16) [] w fun (r : Sl) (w : World) =>
                                  ∀ (b : Nat) (w1 : World),
                                    Upd [] [b] w w1 →
                                      (World.heap w1)[b]? =
                                          some
                                            (Obj.cells
                                              {
                                                toList :=
                                                  SV.cells
                                                    (SV.struct
                                                      [SV.int IntKind.u8 0, SV.int IntKind.u8 0, SV.int IntKind.u8 (wr IntKind.u8 (gshr IntKind.i64 n 8)),
                                                        SV.int IntKind.u8 (wr IntKind.u8 n), SV.int IntKind.u8 0, SV.int IntKind.u8 0, SV.int IntKind.u8 0,
                                                        SV.int IntKind.u8 (wr IntKind.u8 proto)]) }
                                              5) →
                                        Vc.Append 5 1 1 r { ptr := some { block := b, off := 0 }, len := 8, cap := 8 } [] w1 fun (r : Sl) (w : World) =>
                                          R (SV.tuple [SV.slice r, SV.int IntKind.i64 0]) w) →
                      J w1) →
                  Br (n_1 == 0) (R (SV.tuple [SV.slice { ptr := none, len := 0, cap := 0 }, SV.int IntKind.i64 20]) w1_1)
                    (Ret Tryd.prog 75 [SV.struct [SV.int IntKind.i64 dst_0, SV.arr IntKind.u8 16 dst_1]] w1_1 fun (r : SV) (w1 : World) =>
                      ∃ (n_2 : Int),
                        r = SV.int IntKind.i64 n_2 ∧
                          Keeps [b, b_1] w1_1 w1 ∧
                            Br (n_2 != n_1) (R (SV.tuple [SV.slice { ptr := none, len := 0, cap := 0 }, SV.int IntKind.i64 20]) w1)
                              (Br (decide (proto < 0)) (R (SV.tuple [SV.slice { ptr := none, len := 0, cap := 0 }, SV.int IntKind.i64 1]) w1)
                                (Br (decide (proto > 255)) (R (SV.tuple [SV.slice { ptr := none, len := 0, cap := 0 }, SV.int IntKind.i64 1]) w1)
                                  (Br (decide (n < 0)) (R (SV.tuple [SV.slice { ptr := none, len := 0, cap := 0 }, SV.int IntKind.i64 1]) w1)
                                    (Br (decide (n > 65535)) (R (SV.tuple [SV.slice { ptr := none, len := 0, cap := 0 }, SV.int IntKind.i64 1]) w1)
                                      (some (SV.box b 27 (SV.struct [SV.int IntKind.i64 src_0, SV.arr IntKind.u8 16 src_1])) =
                                          some (SV.box b 27 (SV.struct [SV.int IntKind.i64 src_0, SV.arr IntKind.u8 16 src_1])) ∧
                                        some (SV.box b_1 27 (SV.struct [SV.int IntKind.i64 dst_0, SV.arr IntKind.u8 16 dst_1])) =
                                            some (SV.box b_1 27 (SV.struct [SV.int IntKind.i64 dst_0, SV.arr IntKind.u8 16 dst_1])) ∧
                                          J w1))))))
theorem f22_of (src_0 : Int) (src_1 : Nat → Int) (dst_0 : Int) (dst_1 : Nat → Int) (proto : Int) (n : Int) (w : World) (R : SV → World → Prop) (h : vc22 src_0 src_1 dst_0 dst_1 proto n w R) : Ret Tryd.prog 22 [.struct [.int .i64 src_0, .arr .u8 16 src_1], .struct [.int .i64 dst_0, .arr .u8 16 dst_1], .int .i64 proto, .int .i64 n] w R :=
  have e : vc22 src_0 src_1 dst_0 dst_1 proto n w R = fnVC X Tryd.f22 a22 [.struct [.int .i64 src_0, .arr .u8 16 src_1], .struct [.int .i64 dst_0, .arr .u8 16 dst_1], .int .i64 proto, .int .i64 n] w R := by kernel_rfl
  fnVC_sound X_ok (n := a22) (e ▸ h) (by kernel_rfl) (by kernel_rfl) rfl rfl

def vc105 (ip_0 : Int) (ip_1 : Nat → Int) (w : World) (R : SV → World → Prop) : Prop :=
  ∀ (b : Nat),
    Br (ip_0 == 6) (∀ (w1 : World), Upd [] [b] w w1 → R (SV.int IntKind.i64 6) w1)
      (∃ (I : Int → World → Prop),
        ∃ (M : Int → World → Nat),
          (∀ (w1 : World), Upd [] [b] w w1 → I 4 w1) ∧
            ∀ (n : Int) (w1 : World),
              I n w1 →
                Br (decide (n < 16))
                  (Need (decide (0 ≤ n) && decide (n < 16))
                    (Br (ip_1 (Int.toNat n) != 0) (R (SV.int IntKind.i64 0) w1)
                      (some (SV.box b 27 (SV.struct [SV.int IntKind.i64 ip_0, SV.arr IntKind.u8 16 ip_1])) =
                          some (SV.box b 27 (SV.struct [SV.int IntKind.i64 ip_0, SV.arr IntKind.u8 16 ip_1])) ∧
                        I (wr IntKind.i64 (n + 1)) w1 ∧ M (wr IntKind.i64 (n + 1)) w1 < M n w1)))
                  (Br (ip_0 == 4) (R (SV.int IntKind.i64 4) w1) (R (SV.int IntKind.i64 0) w1)))
theorem f105_of (ip_0 : Int) (ip_1 : Nat → Int) (w : World) (R : SV → World → Prop) (h : vc105 ip_0 ip_1 w R) : Ret Tryd.prog 105 [.struct [.int .i64 ip_0, .arr .u8 16 ip_1]] w R :=
  have e : vc105 ip_0 ip_1 w R = fnVC X Tryd.f105 a105 [.struct [.int .i64 ip_0, .arr .u8 16 ip_1]] w R := by kernel_rfl
  fnVC_sound X_ok (n := a105) (e ▸ h) (by kernel_rfl) (by kernel_rfl) rfl rfl

def vc102 (src_0 : Int) (src_1 : Nat → Int) (dst_0 : Int) (dst_1 : Nat → Int) (proto : Int) (n : Int) (w : World) (R : SV → World → Prop) : Prop :=
  ∀ (b b_1 : Nat) (w1 : World),
    Upd [] [b_1, b] w w1 →
      Ret Tryd.prog 105 [SV.struct [SV.int IntKind.i64 src_0, SV.arr IntKind.u8 16 src_1]] w1 fun (r : SV) (w1_1 : World) =>
        ∃ (n_1 : Int),
          r = SV.int IntKind.i64 n_1 ∧
            Keeps [b, b_1] w1 w1_1 ∧
              ∀ (J : World → Prop),
                (∀ (w1 : World),
                    (∀ (J : World → Prop),
                        (∀ (w1 : World),
                            Br (n_1 == 4)
                                (∀ (b_2 : Nat) (w1_2 : World),
                                  Upd [] [b_2] w1 w1_2 →
                                    (World.heap w1_2)[b_2]? =
                                        some
                                          (Obj.cells
                                            {
                                              toList :=
                                                SV.cells
                                                  (SV.struct
                                                    [SV.int IntKind.u8 (src_1 0), SV.int IntKind.u8 (src_1 1), SV.int IntKind.u8 (src_1 2), SV.int IntKind.u8 (src_1 3),
                                                      SV.int IntKind.u8 (dst_1 0), SV.int IntKind.u8 (dst_1 1), SV.int IntKind.u8 (dst_1 2), SV.int IntKind.u8 (dst_1 3)]) }
                                            5) →
                                      Vc.Append 5 1 1 { ptr := none, len := 0, cap := 0 } { ptr := some { block := b_2, off := 0 }, len := 8, cap := 8 } [b, b_1] w1_2
                                        fun (r : Sl) (w : World) =>
                                        ∀ (b_3 : Nat) (w1 : World),
                                          Upd [] [b_3] w w1 →
                                            (World.heap w1)[b_3]? =
                                                some
                                                  (Obj.cells
                                                    {
                                                      toList :=
                                                        SV.cells
                                                          (SV.struct
                                                            [SV.int IntKind.u8 0, SV.int IntKind.u8 (wr IntKind.u8 proto),
                                                              SV.int IntKind.u8 (wr IntKind.u8 (wr IntKind.i64 (Int.tdiv n 256))),
                                                              SV.int IntKind.u8 (wr IntKind.u8 (Int.tmod n 256))]) }
                                                    5) →
                                              Vc.Append 5 1 1 r { ptr := some { block := b_3, off := 0 }, len := 4, cap := 4 } [b, b_1] w1 fun (r : Sl) (w : World) =>
                                                R (SV.tuple [SV.slice r, SV.int IntKind.i64 0]) w)
                                (∃ (I : Sl → Int → World → Prop),
                                  ∃ (M : Sl → Int → World → Nat),
                                    I { ptr := none, len := 0, cap := 0 } 0 w1 ∧
                                      ∀ (s : Sl) (n_2 : Int) (w1 : World),
                                        I s n_2 w1 →
                                          Br (decide (n_2 < 16))
                                            (Need (decide (0 ≤ n_2) && decide (n_2 < 16))
                                              (∀ (b_2 : Nat) (w1_2 : World),
                                                Upd [] [b_2] w1 w1_2 →
                                                  (World.heap w1_2)[b_2]? = some (Obj.cells { toList := SV.cells (SV.struct [SV.int IntKind.u8 (src_1 (Int.toNat n_2))]) } 5) →
                                                    Vc.Append 5 1 1 s { ptr := some { block := b_2, off := 0 }, len := 1, cap := 1 } [b, b_1] w1_2 fun (r : Sl) (w : World) =>
                                                      some (SV.box b 27 (SV.struct [SV.int IntKind.i64 src_0, SV.arr IntKind.u8 16 src_1])) =
                                                          some (SV.box b 27 (SV.struct [SV.int IntKind.i64 src_0, SV.arr IntKind.u8 16 src_1])) ∧
                                                        some (SV.box b_1 27 (SV.struct [SV.int IntKind.i64 dst_0, SV.arr IntKind.u8 16 dst_1])) =
                                                            some (SV.box b_1 27 (SV.struct [SV.int IntKind.i64 dst_0, SV.arr IntKind.u8 16 dst_1])) ∧
                                                          I r (wr IntKind.i64 (n_2 + 1)) w ∧ M r (wr IntKind.i64 (n_2 + 1)) w < M s n_2 w1))
                                            (∃ (I : Sl → Int → World → Prop),
                                              ∃ (M : Sl → Int → World → Nat),
                                                I s 0 w1 ∧
                                                  ∀ (s : Sl) (n_3 : Int) (w1 : World),
                                                    I s n_3 w1 →
                                                      Br (decide (n_3 < 16))
                                                        (Need (decide (0 ≤ n_3) && decide (n_3 < 16))
                                                          (∀ (b_2 : Nat) (w1_2 : World),
                                                            Upd [] [b_2] w1 w1_2 →
                                                              (World.heap w1_2)[b_2]? =
                                                                  some (Obj.cells { toList := SV.cells (SV.struct [SV.int IntKind.u8 (dst_1 (Int.toNat n_3))]) } 5) →
                                                                Vc.Append 5 1 1 s { ptr := some { block := b_2, off := 0 }, len := 1, cap := 1 } [b, b_1] w1_2
                                                                  fun (r : Sl) (w : World) =>
                                                                  some (SV.box b 27 (SV.struct [SV.int IntKind.i64 src_0, SV.arr IntKind.u8 16 src_1])) =
                                                                      some (SV.box b 27 (SV.struct [SV.int IntKind.i64 src_0, SV.arr IntKind.u8 16 src_1])) ∧
                                                                    some (SV.box b_1 27 (SV.struct [SV.int IntKind.i64 dst_0, SV.arr IntKind.u8 16 dst_1])) =
                                                                        some (SV.box b_1 27 (SV.struct [SV.int IntKind.i64 dst_0, SV.arr IntKind.u8 16 dst_1])) ∧
                                                                      I r (wr IntKind.i64 (n_3 + 1)) w ∧ M r (wr IntKind.i64 (n_3 + 1)) w < M s n_3 w1))
                                                        (∀ (b_2 : Nat) (w1_2 : World),
                                                          Upd [] [b_2] w1 w1_2 →
                                                            (World.heap w1_2)[b_2]? =
                                                                some
                                                                  (Obj.cells
                                                                    {
                                                                      toList :=
                                                                        SV.cells
                                                                          (SV.struct
                                                                            [SV.int IntKind.u8 0, SV.int IntKind.u8 0,
                                                                              SV.int IntKind.u8 (wr IntKind.u8 (wr IntKind.i64 (Int.tdiv n 256))),
                                                                              SV.int IntKind.u8 (wr IntKind.u8 (Int.tmod n 256)), SV.int IntKind.u8 0, SV.int IntKind.u8 0,
                                                                              SV.int IntKind.u8 0, SV.int IntKind.u8 (wr IntKind.u8 proto)]) }
                                                                    5) →
                                                              Vc.Append 5 1 1 s { ptr := some { block := b_2, off := 0 }, len := 8, cap := 8 } [b, b_1] w1_2
                                                                fun (r : Sl) (w : World) => R (SV.tuple [SV.slice r, SV.int IntKind.i64 0]) w))) →
                              J w1) →
                          Br (decide (proto < 0)) (R (SV.tuple [SV.slice { ptr := none, len := 0, cap := 0 }, SV.int IntKind.i64 1]) w1)
                            (Br (decide (proto > 255)) (R (SV.tuple [SV.slice { ptr := none, len := 0, cap := 0 }, SV.int IntKind.i64 1]) w1)
                              (Br (decide (n < 0)) (R (SV.tuple [SV.slice { ptr := none, len := 0, cap := 0 }, SV.int IntKind.i64 1]) w1)
                                (Br (decide (n > 65535)) (R (SV.tuple [SV.slice { ptr := none, len := 0, cap := 0 }, SV.int IntKind.i64 1]) w1)
                                  (some (SV.box b 27 (SV.struct [SV.int IntKind.i64 src_0, SV.arr IntKind.u8 16 src_1])) =
                                      some (SV.box b 27 (SV.struct [SV.int IntKind.i64 src_0, SV.arr IntKind.u8 16 src_1])) ∧
                                    some (SV.box b_1 27 (SV.struct [SV.int IntKind.i64 dst_0, SV.arr IntKind.u8 16 dst_1])) =
                                        some (SV.box b_1 27 (SV.struct [SV.int IntKind.i64 dst_0, SV.arr IntKind.u8 16 dst_1])) ∧
                                      J w1))))) →
                      J w1) →
                  Br (n_1 == 0) (R (SV.tuple [SV.slice { ptr := none, len := 0, cap := 0 }, SV.int IntKind.i64 20]) w1_1)
                    (Ret Tryd.prog 105 [SV.struct [SV.int IntKind.i64 dst_0, SV.arr IntKind.u8 16 dst_1]] w1_1 fun (r : SV) (w1 : World) =>
                      ∃ (n : Int),
                        r = SV.int IntKind.i64 n ∧
                          Keeps [b, b_1] w1_1 w1 ∧
                            Br (n != n_1) (R (SV.tuple [SV.slice { ptr := none, len := 0, cap := 0 }, SV.int IntKind.i64 20]) w1)
                              (some (SV.box b 27 (SV.struct [SV.int IntKind.i64 src_0, SV.arr IntKind.u8 16 src_1])) =
                                  some (SV.box b 27 (SV.struct [SV.int IntKind.i64 src_0, SV.arr IntKind.u8 16 src_1])) ∧
                                some (SV.box b_1 27 (SV.struct [SV.int IntKind.i64 dst_0, SV.arr IntKind.u8 16 dst_1])) =
                                    some (SV.box b_1 27 (SV.struct [SV.int IntKind.i64 dst_0, SV.arr IntKind.u8 16 dst_1])) ∧
                                  J w1))
theorem f102_of (src_0 : Int) (src_1 : Nat → Int) (dst_0 : Int) (dst_1 : Nat → Int) (proto : Int) (n : Int) (w : World) (R : SV → World → Prop) (h : vc102 src_0 src_1 dst_0 dst_1 proto n w R) : Ret Tryd.prog 102 [.struct [.int .i64 src_0, .arr .u8 16 src_1], .struct [.int .i64 dst_0, .arr .u8 16 dst_1], .int .i64 proto, .int .i64 n] w R :=
  have e : vc102 src_0 src_1 dst_0 dst_1 proto n w R = fnVC X Tryd.f102 a102 [.struct [.int .i64 src_0, .arr .u8 16 src_1], .struct [.int .i64 dst_0, .arr .u8 16 dst_1], .int .i64 proto, .int .i64 n] w R := by kernel_rfl
  fnVC_sound X_ok (n := a102) (e ▸ h) (by kernel_rfl) (by kernel_rfl) rfl rfl

def vc70 (src_0 : Int) (src_1 : Nat → Int) (dst_0 : Int) (dst_1 : Nat → Int) (w : World) (R : SV → World → Prop) : Prop :=
  ∀ (b b_1 : Nat) (w1 : World),
    Upd [] [b_1, b] w w1 →
      Ret Tryd.prog 22
        [SV.struct [SV.int IntKind.i64 src_0, SV.arr IntKind.u8 16 src_1], SV.struct [SV.int IntKind.i64 dst_0, SV.arr IntKind.u8 16 dst_1], SV.int IntKind.i64 0,
          SV.int IntKind.i64 0]
        w1 fun (r : SV) (w1_1 : World) => ∃ (s : Sl), ∃ (n : Int), r = SV.tuple [SV.slice s, SV.int IntKind.i64 n] ∧ Keeps [b, b_1] w1 w1_1 ∧ R (SV.int IntKind.i64 n) w1_1
theorem f70_of (src_0 : Int) (src_1 : Nat → Int) (dst_0 : Int) (dst_1 : Nat → Int) (w : World) (R : SV → World → Prop) (h : vc70 src_0 src_1 dst_0 dst_1 w R) : Ret Tryd.prog 70 [.struct [.int .i64 src_0, .arr .u8 16 src_1], .struct [.int .i64 dst_0, .arr .u8 16 dst_1]] w R :=
  have e : vc70 src_0 src_1 dst_0 dst_1 w R = fnVC X Tryd.f70 a70 [.struct [.int .i64 src_0, .arr .u8 16 src_1], .struct [.int .i64 dst_0, .arr .u8 16 dst_1]] w R := by kernel_rfl
  fnVC_sound X_ok (n := a70) (e ▸ h) (by kernel_rfl) (by kernel_rfl) rfl rfl

def vc83 (src_0 : Int) (src_1 : Nat → Int) (dst_0 : Int) (dst_1 : Nat → Int) (w : World) (R : SV → World → Prop) : Prop :=
  ∀ (b b_1 : Nat) (w1 : World),
    Upd [] [b_1, b] w w1 →
      Ret Tryd.prog 102
        [SV.struct [SV.int IntKind.i64 src_0, SV.arr IntKind.u8 16 src_1], SV.struct [SV.int IntKind.i64 dst_0, SV.arr IntKind.u8 16 dst_1], SV.int IntKind.i64 0,
          SV.int IntKind.i64 0]
        w1 fun (r : SV) (w1_1 : World) => ∃ (s : Sl), ∃ (n : Int), r = SV.tuple [SV.slice s, SV.int IntKind.i64 n] ∧ Keeps [b, b_1] w1 w1_1 ∧ R (SV.bool (n == 0)) w1_1
theorem f83_of (src_0 : Int) (src_1 : Nat → Int) (dst_0 : Int) (dst_1 : Nat → Int) (w : World) (R : SV → World → Prop) (h : vc83 src_0 src_1 dst_0 dst_1 w R) : Ret Tryd.prog 83 [.struct [.int .i64 src_0, .arr .u8 16 src_1], .struct [.int .i64 dst_0, .arr .u8 16 dst_1]] w R :=
  have e : vc83 src_0 src_1 dst_0 dst_1 w R = fnVC X Tryd.f83 a83 [.struct [.int .i64 src_0, .arr .u8 16 src_1], .struct [.int .i64 dst_0, .arr .u8 16 dst_1]] w R := by kernel_rfl
  fnVC_sound X_ok (n := a83) (e ▸ h) (by kernel_rfl) (by kernel_rfl) rfl rfl

def vc74 (src_0 : Int) (src_1 : Nat → Int) (dst_0 : Int) (dst_1 : Nat → Int) (proto : Int) (b : Sl) (w : World) (R : SV → World → Prop) : Prop :=
  ∀ (b_1 b_2 : Nat) (w1 : World),
    Upd [] [b_2, b_1] w w1 →
      Ret Tryd.prog 22
        [SV.struct [SV.int IntKind.i64 src_0, SV.arr IntKind.u8 16 src_1], SV.struct [SV.int IntKind.i64 dst_0, SV.arr IntKind.u8 16 dst_1], SV.int IntKind.i64 proto,
          SV.int IntKind.i64 (↑b.2 : Int)]
        w1 fun (r : SV) (w1_1 : World) =>
        ∃ (s : Sl),
          ∃ (n : Int),
            r = SV.tuple [SV.slice s, SV.int IntKind.i64 n] ∧
              Keeps [b_1, b_2] w1 w1_1 ∧
                Br (n == 0)
                  (∀ (b_3 : Nat) (w1 : World),
                    Upd [] [b_3] w1_1 w1 →
                      (World.heap w1)[b_3]? = some (Obj.cells { toList := SV.cells (SV.struct [SV.slice s, SV.slice b]) } 28) →
                        Ret Tryd.prog 24 [SV.slice { ptr := some { block := b_3, off := 0 }, len := 2, cap := 2 }] w1 fun (r : SV) (w1_2 : World) =>
                          ∃ (b : Bool), r = SV.bool b ∧ Keeps [b_1, b_2] w1 w1_2 ∧ R (SV.bool b) w1_2)
                  (R (SV.bool false) w1_1)
theorem f74_of (src_0 : Int) (src_1 : Nat → Int) (dst_0 : Int) (dst_1 : Nat → Int) (proto : Int) (b : Sl) (w : World) (R : SV → World → Prop) (h : vc74 src_0 src_1 dst_0 dst_1 proto b w R) : Ret Tryd.prog 74 [.struct [.int .i64 src_0, .arr .u8 16 src_1], .struct [.int .i64 dst_0, .arr .u8 16 dst_1], .int .i64 proto, .slice b] w R :=
  have e : vc74 src_0 src_1 dst_0 dst_1 proto b w R = fnVC X Tryd.f74 a74 [.struct [.int .i64 src_0, .arr .u8 16 src_1], .struct [.int .i64 dst_0, .arr .u8 16 dst_1], .int .i64 proto, .slice b] w R := by kernel_rfl
  fnVC_sound X_ok (n := a74) (e ▸ h) (by kernel_rfl) (by kernel_rfl) rfl rfl

def vc90 (src_0 : Int) (src_1 : Nat → Int) (dst_0 : Int) (dst_1 : Nat → Int) (proto : Int) (b : Sl) (w : World) (R : SV → World → Prop) : Prop :=
  ∀ (b_1 b_2 : Nat) (w1 : World),
    Upd [] [b_2, b_1] w w1 →
      Ret Tryd.prog 102
        [SV.struct [SV.int IntKind.i64 src_0, SV.arr IntKind.u8 16 src_1], SV.struct [SV.int IntKind.i64 dst_0, SV.arr IntKind.u8 16 dst_1], SV.int IntKind.i64 proto,
          SV.int IntKind.i64 (↑b.2 : Int)]
        w1 fun (r : SV) (w1_1 : World) =>
        ∃ (s : Sl),
          ∃ (n : Int),
            r = SV.tuple [SV.slice s, SV.int IntKind.i64 n] ∧
              Keeps [b_1, b_2] w1 w1_1 ∧
                ∀ (b_3 : Nat) (w1 : World),
                  Upd [] [b_3] w1_1 w1 →
                    (World.heap w1)[b_3]? = some (Obj.cells { toList := SV.cells (SV.struct [SV.slice s, SV.slice b]) } 28) →
                      Ret Tryd.prog 104 [SV.slice { ptr := some { block := b_3, off := 0 }, len := 2, cap := 2 }] w1 fun (r : SV) (w1_2 : World) =>
                        ∃ (n : Int), r = SV.int IntKind.i64 n ∧ Keeps [b_1, b_2] w1 w1_2 ∧ R (SV.int IntKind.i64 n) w1_2
theorem f90_of (src_0 : Int) (src_1 : Nat → Int) (dst_0 : Int) (dst_1 : Nat → Int) (proto : Int) (b : Sl) (w : World) (R : SV → World → Prop) (h : vc90 src_0 src_1 dst_0 dst_1 proto b w R) : Ret Tryd.prog 90 [.struct [.int .i64 src_0, .arr .u8 16 src_1], .struct [.int .i64 dst_0, .arr .u8 16 dst_1], .int .i64 proto, .slice b] w R :=
  have e : vc90 src_0 src_1 dst_0 dst_1 proto b w R = fnVC X Tryd.f90 a90 [.struct [.int .i64 src_0, .arr .u8 16 src_1], .struct [.int .i64 dst_0, .arr .u8 16 dst_1], .int .i64 proto, .slice b] w R := by kernel_rfl
  fnVC_sound X_ok (n := a90) (e ▸ h) (by kernel_rfl) (by kernel_rfl) rfl rfl

def vc77 (n : Int) (hi : Int) (w : World) (R : SV → World → Prop) : Prop :=
  Br (decide (n < 0)) (R (SV.bool true) w) (R (SV.bool (decide (n > hi))) w)
theorem f77_of (n : Int) (hi : Int) (w : World) (R : SV → World → Prop) (h : vc77 n hi w R) : Ret Tryd.prog 77 [.int .i64 n, .int .i64 hi] w R :=
  have e : vc77 n hi w R = fnVC X Tryd.f77 a77 [.int .i64 n, .int .i64 hi] w R := by kernel_rfl
  fnVC_sound X_ok (n := a77) (e ▸ h) (by kernel_rfl) (by kernel_rfl) rfl rfl

def vc93 (n : Int) (hi : Int) (w : World) (R : SV → World → Prop) : Prop :=
  Br (decide (n < 0)) (R (SV.bool true) w) (R (SV.bool (decide (n > hi))) w)
theorem f93_of (n : Int) (hi : Int) (w : World) (R : SV → World → Prop) (h : vc93 n hi w R) : Ret Tryd.prog 93 [.int .i64 n, .int .i64 hi] w R :=
  have e : vc93 n hi w R = fnVC X Tryd.f93 a93 [.int .i64 n, .int .i64 hi] w R := by kernel_rfl
  fnVC_sound X_ok (n := a93) (e ▸ h) (by kernel_rfl) (by kernel_rfl) rfl rfl

def vc20 (e : Int) (w : World) (R : SV → World → Prop) : Prop :=
  R (SV.int IntKind.i64 e) w
theorem f20_of (e : Int) (w : World) (R : SV → World → Prop) (h : vc20 e w R) : Ret Tryd.prog 20 [.int .i64 e] w R :=
  have e : vc20 e w R = fnVC X Tryd.f20 a20 [.int .i64 e] w R := by kernel_rfl
  fnVC_sound X_ok (n := a20) (e ▸ h) (by kernel_rfl) (by kernel_rfl) rfl rfl

def vc78 (kind : Int) (n : Int) (w : World) (R : SV → World → Prop) : Prop :=
  Br (decide (kind ≥ 9)) (R (SV.bool true) w)
    (Need (decide (0 ≤ kind) && decide (kind < 9))
      (∃ (n_1 : Int),
        World.cell? w (Addr.add { block := 2, off := 0 } (Int.toNat kind * 1)) = some (Value.int IntKind.u64 n_1) ∧
          Br (n_1 == 0) (R (SV.bool true) w)
            (Need (decide (0 ≤ kind) && decide (kind < 9))
              (∃ (n_2 : Int),
                World.cell? w (Addr.add { block := 2, off := 0 } (Int.toNat kind * 1)) = some (Value.int IntKind.u64 n_2) ∧
                  Need (decide (0 ≤ wr IntKind.u64 n)) (R (SV.bool (iand IntKind.u64 (gshr IntKind.u64 n_2 (wr IntKind.u64 n)) 1 == 1)) w)))))
theorem f78_of (kind : Int) (n : Int) (w : World) (R : SV → World → Prop) (h : vc78 kind n w R) : Ret Tryd.prog 78 [.int .i64 kind, .int .i64 n] w R :=
  have e : vc78 kind n w R = fnVC X Tryd.f78 a78 [.int .i64 kind, .int .i64 n] w R := by kernel_rfl
  fnVC_sound X_ok (n := a78) (e ▸ h) (by kernel_rfl) (by kernel_rfl) rfl rfl

def vc86 (kind : Int) (n : Int) (w : World) (R : SV → World → Prop) : Prop :=
  Br (kind == 2) (R (SV.bool (n == 4)) w)
    (Br (kind == 3) (R (SV.bool (n == 3)) w)
      (Br (kind == 4) (R (SV.bool (n == 2)) w)
        (Br (kind == 5) (Br (n == 10) (R (SV.bool true) w) (Br (n == 18) (R (SV.bool true) w) (Br (n == 26) (R (SV.bool true) w) (R (SV.bool (n == 34)) w))))
          (Br (kind == 8) (R (SV.bool (n == 10)) w) (R (SV.bool (decide (n ≥ 2))) w)))))
theorem f86_of (kind : Int) (n : Int) (w : World) (R : SV → World → Prop) (h : vc86 kind n w R) : Ret Tryd.prog 86 [.int .i64 kind, .int .i64 n] w R :=
  have e : vc86 kind n w R = fnVC X Tryd.f86 a86 [.int .i64 kind, .int .i64 n] w R := by kernel_rfl
  fnVC_sound X_ok (n := a86) (e ▸ h) (by kernel_rfl) (by kernel_rfl) rfl rfl

def vc84 (b : Sl) (p1 : Int) (n : Int) (w : World) (R : SV → World → Prop) : Prop :=
  ∃ (I : Int → Int → World → Prop),
    ∃ (M : Int → Int → World → Nat),
      I 0 0 w ∧
        ∀ (n_1 n_2 : Int) (w1 : World),
          I n_1 n_2 w1 →
            Br (decide (n_2 < n))
              (Need (decide (0 ≤ wr IntKind.i64 (p1 + n_2)) && decide (wr IntKind.i64 (p1 + n_2) < (↑b.2 : Int)) && Option.isSome b.1)
                (∃ (n : Int),
                  World.cell? w1 (Sl.at b 1 (Int.toNat (wr IntKind.i64 (p1 + n_2)))) = some (Value.int IntKind.u8 n) ∧
                    I (wr IntKind.i64 (wr IntKind.i64 (256 * n_1) + wr IntKind.i64 n)) (wr IntKind.i64 (n_2 + 1)) w1 ∧
                      M (wr IntKind.i64 (wr IntKind.i64 (256 * n_1) + wr IntKind.i64 n)) (wr IntKind.i64 (n_2 + 1)) w1 < M n_1 n_2 w1))
              (R (SV.int IntKind.i64 n_1) w1)
theorem f84_of (b : Sl) (p1 : Int) (n : Int) (w : World) (R : SV → World → Prop) (h : vc84 b p1 n w R) : Ret Tryd.prog 84 [.slice b, .int .i64 p1, .int .i64 n] w R :=
  have e : vc84 b p1 n w R = fnVC X Tryd.f84 a84 [.slice b, .int .i64 p1, .int .i64 n] w R := by kernel_rfl
  fnVC_sound X_ok (n := a84) (e ▸ h) (by kernel_rfl) (by kernel_rfl) rfl rfl

def vc89 (b : Sl) (v : Int) (n : Int) (w : World) (R : SV → World → Prop) : Prop :=
  ∃ (I : Int → Int → World → Prop),
    ∃ (M : Int → Int → World → Nat),
      I 1 1 w ∧
        ∀ (n_1 n_2 : Int) (w1 : World),
          I n_1 n_2 w1 →
            Br (decide (n_2 < n)) (I (wr IntKind.i64 (n_1 * 256)) (wr IntKind.i64 (n_2 + 1)) w1 ∧ M (wr IntKind.i64 (n_1 * 256)) (wr IntKind.i64 (n_2 + 1)) w1 < M n_1 n_2 w1)
              (∃ (I : Sl → Int → Int → World → Prop),
                ∃ (M : Sl → Int → Int → World → Nat),
                  I b n_1 0 w1 ∧
                    ∀ (s : Sl) (n_3 n_4 : Int) (w1 : World),
                      I s n_3 n_4 w1 →
                        Br (decide (n_4 < n))
                          (Need (n_3 != 0)
                            (∀ (b : Nat) (w1_1 : World),
                              Upd [] [b] w1 w1_1 →
                                (World.heap w1_1)[b]? =
                                    some (Obj.cells { toList := SV.cells (SV.struct [SV.int IntKind.u8 (wr IntKind.u8 (Int.tmod (wr IntKind.i64 (Int.tdiv v n_3)) 256))]) } 5) →
                                  Vc.Append 5 1 1 s { ptr := some { block := b, off := 0 }, len := 1, cap := 1 } [] w1_1 fun (r : Sl) (w : World) =>
                                    I r (wr IntKind.i64 (Int.tdiv n_3 256)) (wr IntKind.i64 (n_4 + 1)) w ∧
                                      M r (wr IntKind.i64 (Int.tdiv n_3 256)) (wr IntKind.i64 (n_4 + 1)) w < M s n_3 n_4 w1))
                          (R (SV.slice s) w1))
theorem f89_of (b : Sl) (v : Int) (n : Int) (w : World) (R : SV → World → Prop) (h : vc89 b v n w R) : Ret Tryd.prog 89 [.slice b, .int .i64 v, .int .i64 n] w R :=
  have e : vc89 b v n w R = fnVC X Tryd.f89 a89 [.slice b, .int .i64 v, .int .i64 n] w R := by kernel_rfl
  fnVC_sound X_ok (n := a89) (e ▸ h) (by kernel_rfl) (by kernel_rfl) rfl rfl

def vc79 (o_0 : Int) (o_1 : Sl) (w : World) (R : SV → World → Prop) : Prop :=
  ∀ (b : Nat) (J : World → Prop),
    (∀ (w1 : World),
        Need (decide (0 < (↑o_1.2 : Int)) && Option.isSome o_1.1)
            (∃ (n : Int),
              World.cell? w1 (Sl.at o_1 1 0) = some (Value.int IntKind.u8 n) ∧
                Need (decide (1 < (↑o_1.2 : Int)) && Option.isSome o_1.1)
                  (∃ (n_1 : Int),
                    World.cell? w1 (Sl.at o_1 1 1) = some (Value.int IntKind.u8 n_1) ∧
                      ∀ (w1_1 : World),
                        Upd [] [] w1 w1_1 → R (SV.tuple [SV.int IntKind.i64 (ior IntKind.i64 (gshl IntKind.i64 (wr IntKind.i64 n) 8) (wr IntKind.i64 n_1)), SV.bool true]) w1_1)) →
          J w1) →
      Br (o_0 != 2) (∀ (w1 : World), Upd [] [b] w w1 → R (SV.tuple [SV.int IntKind.i64 0, SV.bool false]) w1)
        (Br ((↑o_1.2 : Int) != 2) (∀ (w1 : World), Upd [] [b] w w1 → R (SV.tuple [SV.int IntKind.i64 0, SV.bool false]) w1)
          (∀ (w1 : World),
            Upd [] [b] w w1 → some (SV.box b 60 (SV.struct [SV.int IntKind.i64 o_0, SV.slice o_1])) = some (SV.box b 60 (SV.struct [SV.int IntKind.i64 o_0, SV.slice o_1])) ∧ J w1))
theorem f79_of (o_0 : Int) (o_1 : Sl) (w : World) (R : SV → World → Prop) (h : vc79 o_0 o_1 w R) : Ret Tryd.prog 79 [.struct [.int .i64 o_0, .slice o_1]] w R :=
  have e : vc79 o_0 o_1 w R = fnVC X Tryd.f79 a79 [.struct [.int .i64 o_0, .slice o_1]] w R := by kernel_rfl
  fnVC_sound X_ok (n := a79) (e ▸ h) (by kernel_rfl) (by kernel_rfl) rfl rfl

def vc92 (o_0 : Int) (o_1 : Sl) (w : World) (R : SV → World → Prop) : Prop :=
  ∀ (b : Nat), Br (o_0 == 2) (∀ (w1 : World), Upd [] [b] w w1 → R (SV.bool ((↑o_1.2 : Int) == 2)) w1) (∀ (w1 : World), Upd [] [b] w w1 → R (SV.bool false) w1)
theorem f92_of (o_0 : Int) (o_1 : Sl) (w : World) (R : SV → World → Prop) (h : vc92 o_0 o_1 w R) : Ret Tryd.prog 92 [.struct [.int .i64 o_0, .slice o_1]] w R :=
  have e : vc92 o_0 o_1 w R = fnVC X Tryd.f92 a92 [.struct [.int .i64 o_0, .slice o_1]] w R := by kernel_rfl
  fnVC_sound X_ok (n := a92) (e ▸ h) (by kernel_rfl) (by kernel_rfl) rfl rfl

end Go.Vc.S9
end

section
namespace Go.Vc
set_option linter.unusedVariables false
set_option linter.unusedSimpArgs false
set_option autoImplicit false

/-- a slice of slices of bytes -/
structure Parts (w : World) (s : Sl) (ls : List (List Int)) (ss : List Sl) : Prop where
  row : Sees cSl w s ss
  len : ss.length = ls.length
  each : ∀ i (h : i < ls.length), SeesB w (ss[i]'(by rw [len]; exact h)) ls[i]

section
variable {w w1 : World} {s : Sl} {ls : List (List Int)} {ss : List Sl}
theorem Parts.slen (h : Parts w s ls ss) : s.len = ls.length := by rw [h.row.len, h.len]
theorem Parts.get (h : Parts w s ls ss) {i : Int} (h0 : 0 ≤ i) (hi : i < ls.length) : ∃ (h1 : i.toNat < ss.length) (h2 : i.toNat < ls.length),
    w.cell? (s.at 1 i.toNat) = some (ss[i.toNat]).val ∧ SeesB w ss[i.toNat] ls[i.toNat] ∧ s.ptr.isSome = true := by
  have h2 : i.toNat < ls.length := by omega
  have h1 : i.toNat < ss.length := by rw [h.len]; exact h2
  refine ⟨h1, h2, ?_, h.each _ h2, h.row.isSome (by decide) (by omega)⟩
  have := h.row.elem h1 0 (by simp [cSl])
  rw [add_zero] at this
  exact this
end

theorem take_snoc {α : Type} {l : List α} {k : Nat} (h : k < l.length) : l.take (k + 1) = l.take k ++ [l[k]] := List.take_succ_eq_append_getElem h
theorem flat_snoc {α : Type} {ls : List (List α)} {k : Nat} (h : k < ls.length) : (ls.take (k + 1)).flatten = (ls.take k).flatten ++ ls[k] := by rw [take_snoc h, List.flatten_append]; simp
theorem flat_le {α : Type} (ls : List (List α)) (k : Nat) : (ls.take k).flatten.length ≤ ls.flatten.length := by
  have := congrArg List.length (List.take_append_drop k ls ▸ List.flatten_append (L₁ := ls.take k) (L₂ := ls.drop k))
  rw [List.length_append] at this
  have h2 : (List.take k ls ++ List.drop k ls).flatten.length = ls.flatten.length := by rw [List.take_append_drop]
  omega
theorem byt_flat {ls : List (List Int)} (h : ∀ l ∈ ls, Byt l) : Byt ls.flatten := fun x hx => by
  obtain ⟨l, hl, hx⟩ := List.mem_flatten.1 hx
  exact h l hl x hx
theorem byt_flat_take {ls : List (List Int)} (h : ∀ l ∈ ls, Byt l) (k : Nat) : Byt (ls.take k).flatten := byt_flat fun l hl => h l (List.mem_of_mem_take hl)
theorem bt_nat {l : List Int} {i : Nat} (h : i < l.length) : bt l (i : Int) = l[i] := by simp [bt, h]
/-- all of w's blocks but m's stand; what has been read of a slice stands -/
theorem needB {X : Prop} {w : World} {s : Sl} {l : List Int} (h : SeesB w s l) {i : Int} (h0 : 0 ≤ i) (h1 : i < l.length) (x : X) : Need (decide (0 ≤ i) && decide (i < (s.len : Int)) && s.ptr.isSome) X :=
  needIx h0 (by rw [h.len]; exact h1) (h.isSome (by decide) (by omega)) x
theorem needP {X : Prop} {w : World} {s : Sl} {ls : List (List Int)} {ss : List Sl} (h : Parts w s ls ss) {i : Int} (h0 : 0 ≤ i) (h1 : i < ls.length) (x : X) : Need (decide (0 ≤ i) && decide (i < (s.len : Int)) && s.ptr.isSome) X :=
  needIx h0 (by rw [h.slen]; exact h1) (h.get h0 h1).2.2.2.2 x
/-- a row that was just made of bytes -/
theorem rowB {w : World} {b e n cap : Nat} {f : Nat × Nat} {cs : List Value} (h : w.heap[b]? = some (.cells cs.toArray e f)) (l : List Int) (hl : cs = cU8.cells l) (hn : n = l.length) : SeesB w ⟨some ⟨b, 0, none⟩, n, cap⟩ l := sees_row h l hl hn
def AllB (w : World) : List Sl → List (List Int) → Prop
  | [], [] => True
  | s :: r, l :: q => SeesB w s l ∧ AllB w r q
  | _, _ => False
theorem AllB.len {w : World} : ∀ {ss : List Sl} {ls : List (List Int)}, AllB w ss ls → ss.length = ls.length
  | [], [], _ => rfl
  | _ :: _, _ :: _, h => by simp [AllB.len h.2]
  | [], _ :: _, h => h.elim
  | _ :: _, [], h => h.elim
theorem AllB.get {w : World} : ∀ {ss : List Sl} {ls : List (List Int)} (h : AllB w ss ls) (i : Nat) (hi : i < ls.length), SeesB w (ss[i]'(by rw [h.len]; exact hi)) ls[i]
  | _ :: _, _ :: _, h, 0, _ => h.1
  | _ :: _, _ :: _, h, i + 1, hi => AllB.get h.2 i (by simpa using hi)
  | [], _ :: _, h, _, _ => h.elim
/-- a row that was just made of slices -/
theorem rowP {w : World} {b e n cap : Nat} {f : Nat × Nat} {cs : List Value} {ss : List Sl} {ls : List (List Int)} (h : w.heap[b]? = some (.cells cs.toArray e f)) (hl : cs = cSl.cells ss) (hn : n = ss.length) (ha : AllB w ss ls) :
    Parts w ⟨some ⟨b, 0, none⟩, n, cap⟩ ls ss := ⟨sees_row h ss hl hn, ha.len, ha.get⟩
end Go.Vc
end

section
namespace Go.Vc
set_option linter.unusedVariables false
set_option linter.unusedSimpArgs false
set_option autoImplicit false

/-! ### bytes out of a row, arrays -/
/-- bytes within a row -/
theorem rowMid {w : World} {b e n cap o : Nat} {f : Nat × Nat} {cs : List Value} (h : w.heap[b]? = some (.cells cs.toArray e f)) (pre post : List Value) (l : List Int) (hl : cs = pre ++ cU8.cells l ++ post) (ho : o = pre.length) (hn : n = l.length) :
    SeesB w ⟨some ⟨b, o, none⟩, n, cap⟩ l := by
  subst hl ho hn
  refine ⟨rfl, fun i hi => ?_⟩
  rw [add_none, cell_of_block h]
  simp [List.getElem?_append_right, List.getElem?_append_left, hi]
def arrL (n : Nat) (f : Nat → Int) : List Int := (List.range n).map f
theorem arrL_len (n : Nat) (f : Nat → Int) : (arrL n f).length = n := by simp [arrL]
theorem arrL_cells (k : Nat) (f : Nat → Int) : SV.cells (.arr .u8 k f) = cU8.cells (arrL k f) := by
  rw [Cod.cells_map1 (fun _ => rfl)]
  simp [SV.cells, arrL]
theorem arrL_byt {n : Nat} {f : Nat → Int} (h : ∀ i, i < n → 0 ≤ f i ∧ f i < 256) : Byt (arrL n f) := by
  intro x hx
  obtain ⟨i, hi, rfl⟩ := List.mem_map.1 hx
  exact h i (List.mem_range.1 hi)
theorem eqArr_iff {n : Nat} {f g : Nat → Int} : eqArr n f g = true ↔ ∀ i, i < n → f i = g i := by
  unfold eqArr
  simp
/-! ### loops that many functions have -/
section
variable {w : World} {s : Sl} {l : List Int}
end
end Go.Vc
end

section
namespace Go.Vc
set_option linter.unusedVariables false
set_option linter.unusedSimpArgs false
set_option autoImplicit false
theorem arrL_succ (n : Nat) (f : Nat → Int) : arrL (n + 1) f = arrL n f ++ [f n] := by simp [arrL, List.range_succ]
/-- an array's bytes are appended one by one -/
theorem app_loop {w w0 : World} {s : Sl} {l : List Int} {f : Nat → Int} {m : Nat} {mi : Int} {e e' : Nat} {cells : Int → List Value} {bs : List Nat} {K : Sl → World → Prop} {C : (Sl → Int → World → Prop) → (Sl → Int → World → Nat) → Sl → Int → World → Sl → World → Prop}
    (hm : mi = m) (u : Upd [] [] w0 w) (h : SeesB w s l) (o : Own w0.heap.size 1 w s) (hl : l.length + m ≤ 70368744177664) (hcells : ∀ t : Nat, t < m → cells (t : Int) = [.int .u8 (f t)]) (hbs : ∀ b ∈ bs, b < w0.heap.size)
    (hC : ∀ (I : Sl → Int → World → Prop) (M : Sl → Int → World → Nat) s n w r w', I r (wr .i64 (n + 1)) w' → M r (wr .i64 (n + 1)) w' < M s n w → C I M s n w r w')
    (k : ∀ s w1, Upd [] [] w0 w1 → SeesB w1 s (l ++ arrL m f) → Own w0.heap.size 1 w1 s → K s w1) :
    ∃ (I : Sl → Int → World → Prop), ∃ (M : Sl → Int → World → Nat), I s 0 w ∧ ∀ (s : Sl) (n : Int) (w1 : World), I s n w1 →
      Br (decide (n < mi)) (Need (decide (0 ≤ n) && decide (n < mi)) (∀ (b : Nat) (w2 : World), Upd [] [b] w1 w2 → w2.heap[b]? = some (.cells (cells n).toArray e (0, 0)) → Append e' 1 1 s ⟨some ⟨b, 0, none⟩, 1, 1⟩ bs w2 fun r w3 => C I M s n w1 r w3)) (K s w1) := by
  subst hm
  refine ⟨fun s n w1 => Upd [] [] w0 w1 ∧ Own w0.heap.size 1 w1 s ∧ ∃ t : Nat, n = t ∧ t ≤ m ∧ SeesB w1 s (l ++ arrL t f), fun _ n _ => (m - n).toNat, ⟨u, o, 0, rfl, by omega, by simpa [arrL] using h⟩, ?_⟩
  rintro s n w1 ⟨u, o, t, rfl, ht, hs⟩
  refine brd (fun hlt => ?_) (fun hge => ?_)
  · refine needIx2 (by omega) hlt ?_
    intro b w2 u2 hrow
    rw [hcells t (by omega)] at hrow
    have ho2 := o.old u2
    have v2 := u.then u2
    refine append_own (c := cU8) (new := [f t]) (hs.old u2) ho2 (rowB hrow _ rfl rfl) v2.size (fun b hb hmem => by have := (ho2.blk b hb).1; have := hbs b hmem; omega) (by omega) (by simp [arrL_len]; omega) fun r w3 hr3 ho3 u3 _ => ?_
    refine hC _ _ _ _ _ _ _ ⟨v2.step0 u3 (fun b hb => (ho2.blk b hb).1), ho3, t + 1, wr_succ (by omega), by omega, ?_⟩ (by rw [wr_succ (by omega)]; (try dsimp only); omega)
    rw [arrL_succ, ← List.append_assoc]
    exact hr3
  · have : t = m := by omega
    subst this
    exact k s w1 u hs o
end Go.Vc
end

section
namespace Go.Vc
set_option linter.unusedVariables false
set_option linter.unusedSimpArgs false
set_option autoImplicit false
end Go.Vc
namespace Go.Vc
theorem zeros_cells (m : Nat) : zerosOf (.int .u8) m = cU8.cells (List.replicate m 0) := by
  rw [Cod.cells_map1 (fun _ => rfl)]
  unfold zerosOf
  induction m with
  | zero => rfl
  | succ m ih => rw [List.replicate_succ, List.flatten_cons, ih, List.replicate_succ]; rfl
theorem imax_ge (a b : Int) : a ≤ imax a b ∧ b ≤ imax a b ∧ (imax a b = a ∨ imax a b = b) := by unfold imax; split <;> omega
end Go.Vc
end

section
namespace Go.Vc
set_option linter.unusedVariables false
set_option linter.unusedSimpArgs false
set_option autoImplicit false
section
variable {α : Type} {c : Cod α} {w w1 : World} {s : Sl} {l : List α}
/-- append, both ways apart: in place (the same pointer), or to new memory -/
theorem appendN_two {N e by_ n : Nat} {new : List α} {bs : List Nat} {F : Sl → World → Prop} (h : Sees c w s l) (o : Own N c.sz w s) (hN : N ≤ w.heap.size) (hn : n = new.length)
    (hbs : ∀ b ∈ s.blk, b ∉ bs) (hpos : 0 < by_) (hb : (l.length + new.length) * by_ ≤ 140737488355328)
    (k1 : ∀ r w1, Sees c w1 r (l ++ new) → Own N c.sz w1 r → r.ptr = s.ptr → Upd s.blk [] w w1 → (∀ N sz x, Own N sz w x → Own N sz w1 x) → w1.heap.size = w.heap.size → F r w1)
    (k2 : ∀ r w1, Sees c w1 r (l ++ new) → Own w.heap.size c.sz w1 r → Upd [] [] w w1 → F r w1) : AppendN e c.sz by_ s n (c.cells new) bs w F := by
  have hlen := h.len
  refine ⟨fun hfit => ?_, fun hgrow => ?_⟩
  · subst hn
    cases hp : s.ptr with
    | none =>
      have h0 := o.nil hp
      have e1 : new = [] := by cases new with | nil => rfl | cons => simp at hfit; omega
      subst e1
      have el : (⟨none, s.len + ([] : List α).length, s.cap⟩ : Sl) = s := by cases s; simp at hp; subst hp; rfl
      show F ⟨none, s.len + ([] : List α).length, s.cap⟩ w
      rw [el]
      exact k1 s w (by simpa using h) o rfl ((Upd.refl w).wide (by simp)) (fun _ _ _ h => h) rfl
    | some a =>
      obtain ⟨hs, hc⟩ := o.cell a hp
      have hmul : (s.len + new.length) * c.sz ≤ s.cap * c.sz := Nat.mul_le_mul_right _ hfit
      rw [Nat.add_mul] at hmul
      have hlc := c.cells_length new
      have hll := c.cells_length l
      have hrow := h.row
      rw [hp] at hrow
      refine ⟨fun i hi => ?_, ?_, ?_⟩
      · rw [add_add]
        exact hc _ (by omega)
      · simp only [add_block]
        exact hbs _ (by simp [blk_some hp])
      · show F _ (w.setCells (a.add (s.len * c.sz)).block (a.add (s.len * c.sz)).off (c.cells new))
        rw [off_add hs, add_block]
        refine k1 _ _ ⟨by simp [hlen], ?_⟩ ?_ hp.symm ((Upd.setCells w a.block _ _).wide (by simp [blk_some hp])) (fun _ _ _ h => h.setCells _ _ _) (setCells_size _ _ _ _)
        · rw [c.cells_append]
          refine Cells.mk ?_ ?_
          · have := cells_apart (vs := c.cells new) hs (s.len * c.sz) 0 (by simpa using hrow) (.inl (by rw [hll, hlen]; omega))
            simpa using this
          · rw [hll, ← hlen]
            exact cells_write hs _ (fun i hi => (hc _ (by omega)).1)
        · have := (o.setCells a.block (a.off + s.len * c.sz) (c.cells new))
          exact ⟨by simp; omega, by simp, by simpa [Sl.blk, hp] using this.blk, fun a' ha' => by simp at ha'; subst ha'; exact this.cell a hp⟩
  · have main := appendN_full (e := e) (by_ := by_) (n := n) (bs := bs) (F := F) (s := ⟨s.ptr, s.len, s.len⟩) (new := new) (w := w) (l := l) ⟨h.len, h.row⟩ (Nat.le_refl _) hn
    by_cases hn0 : 0 < n
    · have m2 := (main hn0 hpos hb k2).2 (by show s.len < s.len + n; omega)
      refine ⟨m2.1, ?_, m2.2.2⟩
      rw [h.len] at hgrow ⊢
      subst hn
      exact growslice_fits hgrow hb
    · have := o.le; omega
theorem append_two {N e by_ : Nat} {x : Sl} {new : List α} {bs : List Nat} {F : Sl → World → Prop} (h : Sees c w s l) (o : Own N c.sz w s) (hx : Sees c w x new) (hN : N ≤ w.heap.size)
    (hbs : ∀ b ∈ s.blk, b ∉ bs) (hpos : 0 < by_) (hb : (l.length + new.length) * by_ ≤ 140737488355328)
    (k1 : ∀ r w1, Sees c w1 r (l ++ new) → Own N c.sz w1 r → r.ptr = s.ptr → Upd s.blk [] w w1 → (∀ N sz x, Own N sz w x → Own N sz w1 x) → w1.heap.size = w.heap.size → F r w1)
    (k2 : ∀ r w1, Sees c w1 r (l ++ new) → Own w.heap.size c.sz w1 r → Upd [] [] w w1 → F r w1) : Append e c.sz by_ s x bs w F :=
  ⟨c.cells new, hx.rowAt, appendN_two h o hN hx.len hbs hpos hb k1 k2⟩
theorem blk_ptr {r s : Sl} (h : r.ptr = s.ptr) : r.blk = s.blk := by unfold Sl.blk; rw [h]
/-- a slice with another's pointer sees the other's beginning -/
theorem Sees.prefix_ {r : Sl} {l' : List α} (h : Sees c w r l') (hp : r.ptr = s.ptr) (hl : l' = l ++ l'.drop l.length) (hs : s.len = l.length) : Sees c w s l := by
  have := h.take (n := l.length) (by rw [hl]; simp) s.cap
  rw [hl, List.take_left] at this
  rw [hp, ← hs] at this
  exact this
end
end Go.Vc
end

section
namespace Go.Vc
set_option linter.unusedVariables false
set_option linter.unusedSimpArgs false
set_option autoImplicit false
/-- two slices in different arrays -/
def Apt (x y : Sl) : Prop := ∀ b ∈ x.blk, b ∉ y.blk
theorem Apt.symm {x y : Sl} (h : Apt x y) : Apt y x := fun b hb hm => h b hm hb
end Go.Vc
end

section
namespace Go.Vc
set_option linter.unusedVariables false
set_option linter.unusedSimpArgs false
set_option autoImplicit false
theorem needC {i n : Int} {o : Option Addr} {X : Prop} (h1 : i < n) (h2 : o.isSome = true) (x : X) : Need (decide (i < n) && o.isSome) X := need (by simp [h1, h2]) x
theorem needIxT {i n : Int} {X : Prop} (h0 : 0 ≤ i) (h1 : i < n) (x : X) : Need (decide (0 ≤ i) && decide (i < n) && true) X := need (by simp [h0, h1]) x
theorem byteC {w : World} {s : Sl} {l : List Int} (h : SeesB w s l) (i : Nat) (hi : i < l.length) : w.cell? (s.at 1 i) = some (.int .u8 (bt l i)) := by
  have := h.byte (i := (i : Int)) (by omega) (by omega)
  rwa [Int.toNat_natCast] at this
/-- a byte at a place that is written as a number -/
theorem needCB {w : World} {s : Sl} {l : List Int} (h : SeesB w s l) (i : Nat) {X : Prop} (hi : i < l.length) (x : X) : Need (decide ((i : Int) < (s.len : Int)) && s.ptr.isSome) X :=
  needC (by rw [h.len]; omega) (h.isSome (by decide) (by omega)) x
theorem kp {bs : List Nat} {w w1 : World} {n : List Nat} (u : Upd [] n w w1) : Keeps bs w w1 := .inl u.forget
/-- blocks that stood, kept -/
theorem kpm {bs m n : List Nat} {w w1 : World} (u : Upd m n w w1) (h : ∀ b ∈ bs, b < w.heap.size) (hd : ∀ b ∈ bs, b ∉ m) : Keeps bs w w1 := .inr fun b hb => u.keep b (h b hb) (hd b hb)
end Go.Vc
end
