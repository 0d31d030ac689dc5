import Derived.Test.YtmchllbemgnieaaDoorL4LentK2
import Derived.KernelRfl
section
open Go Go.Vc Go.Vc.S9 Go.Proofs
set_option maxRecDepth 100000
set_option linter.unusedVariables false
namespace Go.Vc.S9
def vc29 (t_0 : Int) (t_1 : Int) (t_2 : Int) (t_3 : Int) (t_4 : Int) (t_5 : Int) (t_6 : Int) (t_7 : Sl) (t_8 : Sl) (w : World) (R : SV → World → Prop) : Prop :=
  ∀ (b : Nat) (J : World → Prop),
    (∀ (w1 : World),
        (Ret Tryd.prog 39 [SV.slice t_7] w1 fun (r : SV) (w1_1 : World) =>
            ∃ (s : Sl),
              ∃ (n : Int),
                r = SV.tuple [SV.slice s, SV.int IntKind.i64 n] ∧
                  Keeps [b] w1 w1_1 ∧
                    Br (n != 0) (R (SV.int IntKind.i64 n) w1_1)
                      (Br (decide (wr IntKind.i64 (wr IntKind.i64 (20 + (↑s.2 : Int)) + (↑t_8.2 : Int)) > 65535)) (R (SV.int IntKind.i64 2) w1_1) (R (SV.int IntKind.i64 0) w1_1))) →
          J w1) →
      ∀ (w1 : World),
        Upd [] [b] w w1 →
          Ret Tryd.prog 77 [SV.int IntKind.i64 t_0, SV.int IntKind.i64 65535] w1 fun (r : SV) (w1_1 : World) =>
            ∃ (b_1 : Bool),
              r = SV.bool b_1 ∧
                Keeps [b] w1 w1_1 ∧
                  Br b_1 (R (SV.int IntKind.i64 98) w1_1)
                    (Ret Tryd.prog 77 [SV.int IntKind.i64 t_1, SV.int IntKind.i64 65535] w1_1 fun (r : SV) (w1 : World) =>
                      ∃ (b_2 : Bool),
                        r = SV.bool b_2 ∧
                          Keeps [b] w1_1 w1 ∧
                            Br b_2 (R (SV.int IntKind.i64 98) w1)
                              (Ret Tryd.prog 77 [SV.int IntKind.i64 t_5, SV.int IntKind.i64 65535] w1 fun (r : SV) (w1_2 : World) =>
                                ∃ (b_3 : Bool),
                                  r = SV.bool b_3 ∧
                                    Keeps [b] w1 w1_2 ∧
                                      Br b_3 (R (SV.int IntKind.i64 98) w1_2)
                                        (Ret Tryd.prog 77 [SV.int IntKind.i64 t_6, SV.int IntKind.i64 65535] w1_2 fun (r : SV) (w1 : World) =>
                                          ∃ (b_4 : Bool),
                                            r = SV.bool b_4 ∧
                                              Keeps [b] w1_2 w1 ∧
                                                Br b_4 (R (SV.int IntKind.i64 98) w1)
                                                  (Ret Tryd.prog 77 [SV.int IntKind.i64 t_2, SV.int IntKind.i64 4294967295] w1 fun (r : SV) (w1_3 : World) =>
                                                    ∃ (b_5 : Bool),
                                                      r = SV.bool b_5 ∧
                                                        Keeps [b] w1 w1_3 ∧
                                                          Br b_5 (R (SV.int IntKind.i64 98) w1_3)
                                                            (Ret Tryd.prog 77 [SV.int IntKind.i64 t_3, SV.int IntKind.i64 4294967295] w1_3 fun (r : SV) (w1 : World) =>
                                                              ∃ (b_6 : Bool),
                                                                r = SV.bool b_6 ∧
                                                                  Keeps [b] w1_3 w1 ∧
                                                                    Br b_6 (R (SV.int IntKind.i64 98) w1)
                                                                      (Ret Tryd.prog 77 [SV.int IntKind.i64 t_4, SV.int IntKind.i64 255] w1 fun (r : SV) (w1_4 : World) =>
                                                                        ∃ (b_7 : Bool),
                                                                          r = SV.bool b_7 ∧
                                                                            Keeps [b] w1 w1_4 ∧
                                                                              Br b_7 (R (SV.int IntKind.i64 98) w1_4)
                                                                                (some
                                                                                      (SV.box b 45
                                                                                        (SV.struct
                                                                                          [SV.int IntKind.i64 t_0, SV.int IntKind.i64 t_1, SV.int IntKind.i64 t_2,
                                                                                            SV.int IntKind.i64 t_3, SV.int IntKind.i64 t_4, SV.int IntKind.i64 t_5,
                                                                                            SV.int IntKind.i64 t_6, SV.slice t_7, SV.slice t_8])) =
                                                                                    some
                                                                                      (SV.box b 45
                                                                                        (SV.struct
                                                                                          [SV.int IntKind.i64 t_0, SV.int IntKind.i64 t_1, SV.int IntKind.i64 t_2,
                                                                                            SV.int IntKind.i64 t_3, SV.int IntKind.i64 t_4, SV.int IntKind.i64 t_5,
                                                                                            SV.int IntKind.i64 t_6, SV.slice t_7, SV.slice t_8])) ∧
                                                                                  J w1_4)))))))
theorem f29_of (t_0 : Int) (t_1 : Int) (t_2 : Int) (t_3 : Int) (t_4 : Int) (t_5 : Int) (t_6 : Int) (t_7 : Sl) (t_8 : Sl) (w : World) (R : SV → World → Prop) (h : vc29 t_0 t_1 t_2 t_3 t_4 t_5 t_6 t_7 t_8 w R) : Ret Tryd.prog 29 [.struct [.int .i64 t_0, .int .i64 t_1, .int .i64 t_2, .int .i64 t_3, .int .i64 t_4, .int .i64 t_5, .int .i64 t_6, .slice t_7, .slice t_8]] w R :=
  have e : vc29 t_0 t_1 t_2 t_3 t_4 t_5 t_6 t_7 t_8 w R = fnVC X Tryd.f29 a29 [.struct [.int .i64 t_0, .int .i64 t_1, .int .i64 t_2, .int .i64 t_3, .int .i64 t_4, .int .i64 t_5, .int .i64 t_6, .slice t_7, .slice t_8]] w R := by kernel_rfl
  fnVC_sound X_ok (n := a29) (e ▸ h) (by kernel_rfl) (by kernel_rfl) rfl rfl

def vc60 (t_0 : Int) (t_1 : Int) (t_2 : Int) (t_3 : Int) (t_4 : Int) (t_5 : Int) (t_6 : Int) (t_7 : Sl) (t_8 : Sl) (w : World) (R : SV → World → Prop) : Prop :=
  ∀ (b : Nat) (J : World → Prop),
    (∀ (w1 : World),
        (Ret Tryd.prog 56 [SV.slice t_7] w1 fun (r : SV) (w1_1 : World) =>
            ∃ (s : Sl),
              ∃ (n : Int),
                r = SV.tuple [SV.slice s, SV.int IntKind.i64 n] ∧
                  Keeps [b] w1 w1_1 ∧
                    Br (n != 0) (R (SV.int IntKind.i64 n) w1_1)
                      (Br (decide (wr IntKind.i64 (wr IntKind.i64 (20 + (↑s.2 : Int)) + (↑t_8.2 : Int)) > 65535)) (R (SV.int IntKind.i64 2) w1_1) (R (SV.int IntKind.i64 0) w1_1))) →
          J w1) →
      ∀ (w1 : World),
        Upd [] [b] w w1 →
          Ret Tryd.prog 93 [SV.int IntKind.i64 t_0, SV.int IntKind.i64 65535] w1 fun (r : SV) (w1_1 : World) =>
            ∃ (b_1 : Bool),
              r = SV.bool b_1 ∧
                Keeps [b] w1 w1_1 ∧
                  Br b_1 (R (SV.int IntKind.i64 98) w1_1)
                    (Ret Tryd.prog 93 [SV.int IntKind.i64 t_1, SV.int IntKind.i64 65535] w1_1 fun (r : SV) (w1 : World) =>
                      ∃ (b_2 : Bool),
                        r = SV.bool b_2 ∧
                          Keeps [b] w1_1 w1 ∧
                            Br b_2 (R (SV.int IntKind.i64 98) w1)
                              (Ret Tryd.prog 93 [SV.int IntKind.i64 t_5, SV.int IntKind.i64 65535] w1 fun (r : SV) (w1_2 : World) =>
                                ∃ (b_3 : Bool),
                                  r = SV.bool b_3 ∧
                                    Keeps [b] w1 w1_2 ∧
                                      Br b_3 (R (SV.int IntKind.i64 98) w1_2)
                                        (Ret Tryd.prog 93 [SV.int IntKind.i64 t_6, SV.int IntKind.i64 65535] w1_2 fun (r : SV) (w1 : World) =>
                                          ∃ (b_4 : Bool),
                                            r = SV.bool b_4 ∧
                                              Keeps [b] w1_2 w1 ∧
                                                Br b_4 (R (SV.int IntKind.i64 98) w1)
                                                  (Ret Tryd.prog 93 [SV.int IntKind.i64 t_2, SV.int IntKind.i64 4294967295] w1 fun (r : SV) (w1_3 : World) =>
                                                    ∃ (b_5 : Bool),
                                                      r = SV.bool b_5 ∧
                                                        Keeps [b] w1 w1_3 ∧
                                                          Br b_5 (R (SV.int IntKind.i64 98) w1_3)
                                                            (Ret Tryd.prog 93 [SV.int IntKind.i64 t_3, SV.int IntKind.i64 4294967295] w1_3 fun (r : SV) (w1 : World) =>
                                                              ∃ (b_6 : Bool),
                                                                r = SV.bool b_6 ∧
                                                                  Keeps [b] w1_3 w1 ∧
                                                                    Br b_6 (R (SV.int IntKind.i64 98) w1)
                                                                      (Ret Tryd.prog 93 [SV.int IntKind.i64 t_4, SV.int IntKind.i64 255] w1 fun (r : SV) (w1_4 : World) =>
                                                                        ∃ (b_7 : Bool),
                                                                          r = SV.bool b_7 ∧
                                                                            Keeps [b] w1 w1_4 ∧
                                                                              Br b_7 (R (SV.int IntKind.i64 98) w1_4)
                                                                                (some
                                                                                      (SV.box b 45
                                                                                        (SV.struct
                                                                                          [SV.int IntKind.i64 t_0, SV.int IntKind.i64 t_1, SV.int IntKind.i64 t_2,
                                                                                            SV.int IntKind.i64 t_3, SV.int IntKind.i64 t_4, SV.int IntKind.i64 t_5,
                                                                                            SV.int IntKind.i64 t_6, SV.slice t_7, SV.slice t_8])) =
                                                                                    some
                                                                                      (SV.box b 45
                                                                                        (SV.struct
                                                                                          [SV.int IntKind.i64 t_0, SV.int IntKind.i64 t_1, SV.int IntKind.i64 t_2,
                                                                                            SV.int IntKind.i64 t_3, SV.int IntKind.i64 t_4, SV.int IntKind.i64 t_5,
                                                                                            SV.int IntKind.i64 t_6, SV.slice t_7, SV.slice t_8])) ∧
                                                                                  J w1_4)))))))
theorem f60_of (t_0 : Int) (t_1 : Int) (t_2 : Int) (t_3 : Int) (t_4 : Int) (t_5 : Int) (t_6 : Int) (t_7 : Sl) (t_8 : Sl) (w : World) (R : SV → World → Prop) (h : vc60 t_0 t_1 t_2 t_3 t_4 t_5 t_6 t_7 t_8 w R) : Ret Tryd.prog 60 [.struct [.int .i64 t_0, .int .i64 t_1, .int .i64 t_2, .int .i64 t_3, .int .i64 t_4, .int .i64 t_5, .int .i64 t_6, .slice t_7, .slice t_8]] w R :=
  have e : vc60 t_0 t_1 t_2 t_3 t_4 t_5 t_6 t_7 t_8 w R = fnVC X Tryd.f60 a60 [.struct [.int .i64 t_0, .int .i64 t_1, .int .i64 t_2, .int .i64 t_3, .int .i64 t_4, .int .i64 t_5, .int .i64 t_6, .slice t_7, .slice t_8]] w R := by kernel_rfl
  fnVC_sound X_ok (n := a60) (e ▸ h) (by kernel_rfl) (by kernel_rfl) rfl rfl

def vc27 (src_0 : Int) (src_1 : Nat → Int) (dst_0 : Int) (dst_1 : Nat → Int) (b : Sl) (w : World) (R : SV → World → Prop) : Prop :=
  ∀ (b_1 b_2 b_3 : Nat),
    Br (decide ((↑b.2 : Int) > 65535))
      (∀ (w1 : World),
        Upd [] [b_3, b_2, b_1] w w1 →
          R
            (SV.tuple
              [SV.struct
                  [SV.int IntKind.i64 0, SV.int IntKind.i64 0, SV.int IntKind.i64 0, SV.int IntKind.i64 0, SV.int IntKind.i64 0, SV.int IntKind.i64 0, SV.int IntKind.i64 0,
                    SV.slice { ptr := none, len := 0, cap := 0 }, SV.slice { ptr := none, len := 0, cap := 0 }],
                SV.int IntKind.i64 2])
            w1)
      (∀ (w1 : World),
        Upd [] [b_3, b_2, b_1] w w1 →
          Ret Tryd.prog 70 [SV.struct [SV.int IntKind.i64 src_0, SV.arr IntKind.u8 16 src_1], SV.struct [SV.int IntKind.i64 dst_0, SV.arr IntKind.u8 16 dst_1]] w1
            fun (r : SV) (w1_1 : World) =>
            ∃ (n : Int),
              r = SV.int IntKind.i64 n ∧
                Keeps [b_1, b_2, b_3] w1 w1_1 ∧
                  Br (n != 0)
                    (∀ (w1 : World),
                      Upd [b_3] [] w1_1 w1 →
                        R
                          (SV.tuple
                            [SV.struct
                                [SV.int IntKind.i64 0, SV.int IntKind.i64 0, SV.int IntKind.i64 0, SV.int IntKind.i64 0, SV.int IntKind.i64 0, SV.int IntKind.i64 0,
                                  SV.int IntKind.i64 0, SV.slice { ptr := none, len := 0, cap := 0 }, SV.slice { ptr := none, len := 0, cap := 0 }],
                              SV.int IntKind.i64 n])
                          w1)
                    (Br (decide ((↑b.2 : Int) < 20))
                      (∀ (w1 : World),
                        Upd [b_3] [] w1_1 w1 →
                          R
                            (SV.tuple
                              [SV.struct
                                  [SV.int IntKind.i64 0, SV.int IntKind.i64 0, SV.int IntKind.i64 0, SV.int IntKind.i64 0, SV.int IntKind.i64 0, SV.int IntKind.i64 0,
                                    SV.int IntKind.i64 0, SV.slice { ptr := none, len := 0, cap := 0 }, SV.slice { ptr := none, len := 0, cap := 0 }],
                                SV.int IntKind.i64 94])
                            w1)
                      (∃ (f : Nat → Int),
                        (∀ (i : Nat), i < 10 → World.cell? w1_1 (Addr.add { block := 1, off := 0 } (0 + i)) = some (Value.int IntKind.i64 (f i))) ∧
                          ∀ (b_4 : Nat) (w1 : World),
                            Upd [] [b_4] w1_1 w1 →
                              (World.heap w1)[b_4]? = some (Obj.cells { toList := SV.cells (SV.arr IntKind.i64 10 f) } 127) →
                                Off b_4 [b_1, b_2, b_3] →
                                  Ret Tryd.prog 73 [SV.slice b, SV.int IntKind.i64 0, SV.slice (Sl.sub { ptr := some { block := b_4, off := 0 }, len := 10, cap := 10 } 1 0 10 10)] w1
                                    fun (r : SV) (w1_2 : World) =>
                                    ∃ (s : Sl),
                                      ∃ (n : Int),
                                        ∃ (n_1 : Int),
                                          r = SV.tuple [SV.slice s, SV.int IntKind.i64 n, SV.int IntKind.i64 n_1] ∧
                                            Keeps [b_1, b_2, b_3] w1 w1_2 ∧
                                              Need (decide (4 < (↑s.2 : Int)) && Option.isSome s.1)
                                                (∃ (n : Int),
                                                  World.cell? w1_2 (Sl.at s 1 4) = some (Value.int IntKind.i64 n) ∧
                                                    ∀ (J : Int → Int → Int → Int → Int → Int → Int → Sl → Sl → World → Prop),
                                                      (∀ (n_2 n_3 n_4 n_5 n_6 n_7 n_8 : Int) (s_1 s_2 : Sl) (w1 : World),
                                                          Need
                                                              (decide (0 ≤ wr IntKind.i64 (4 * n)) && decide (wr IntKind.i64 (4 * n) ≤ (↑b.3 : Int)) &&
                                                                  (decide (0 ≤ wr IntKind.i64 (4 * n)) &&
                                                                    decide (wr IntKind.i64 (4 * n) ≤ (↑(Int.toNat (wr IntKind.i64 (4 * n))) : Int))) &&
                                                                decide (20 ≤ (↑(Int.toNat (wr IntKind.i64 (4 * n))) : Int)))
                                                              (Ret Tryd.prog 33 [SV.slice (Sl.sub b 1 20 (Int.toNat (wr IntKind.i64 (4 * n))) (Int.toNat (wr IntKind.i64 (4 * n))))]
                                                                w1 fun (r : SV) (w1_3 : World) =>
                                                                ∃ (s_3 : Sl),
                                                                  ∃ (n_9 : Int),
                                                                    r = SV.tuple [SV.slice s_3, SV.int IntKind.i64 n_9] ∧
                                                                      Keeps [b_1, b_2, b_3] w1 w1_3 ∧
                                                                        Br (n_9 != 0)
                                                                          (∀ (w1 : World),
                                                                            Upd [b_3] [] w1_3 w1 →
                                                                              R
                                                                                (SV.tuple
                                                                                  [SV.struct
                                                                                      [SV.int IntKind.i64 0, SV.int IntKind.i64 0, SV.int IntKind.i64 0, SV.int IntKind.i64 0,
                                                                                        SV.int IntKind.i64 0, SV.int IntKind.i64 0, SV.int IntKind.i64 0,
                                                                                        SV.slice { ptr := none, len := 0, cap := 0 }, SV.slice { ptr := none, len := 0, cap := 0 }],
                                                                                    SV.int IntKind.i64 n_9])
                                                                                w1)
                                                                          (Need (decide (0 < (↑s.2 : Int)) && Option.isSome s.1)
                                                                            (∃ (n_10 : Int),
                                                                              World.cell? w1_3 (Sl.at s 1 0) = some (Value.int IntKind.i64 n_10) ∧
                                                                                Need (decide (1 < (↑s.2 : Int)) && Option.isSome s.1)
                                                                                  (∃ (n_11 : Int),
                                                                                    World.cell? w1_3 (Sl.at s 1 1) = some (Value.int IntKind.i64 n_11) ∧
                                                                                      Need (decide (2 < (↑s.2 : Int)) && Option.isSome s.1)
                                                                                        (∃ (n_12 : Int),
                                                                                          World.cell? w1_3 (Sl.at s 1 2) = some (Value.int IntKind.i64 n_12) ∧
                                                                                            Need (decide (3 < (↑s.2 : Int)) && Option.isSome s.1)
                                                                                              (∃ (n_13 : Int),
                                                                                                World.cell? w1_3 (Sl.at s 1 3) = some (Value.int IntKind.i64 n_13) ∧
                                                                                                  Need (decide (6 < (↑s.2 : Int)) && Option.isSome s.1)
                                                                                                    (∃ (n_14 : Int),
                                                                                                      World.cell? w1_3 (Sl.at s 1 6) = some (Value.int IntKind.i64 n_14) ∧
                                                                                                        Need (decide (7 < (↑s.2 : Int)) && Option.isSome s.1)
                                                                                                          (∃ (n_15 : Int),
                                                                                                            World.cell? w1_3 (Sl.at s 1 7) = some (Value.int IntKind.i64 n_15) ∧
                                                                                                              Need (decide (9 < (↑s.2 : Int)) && Option.isSome s.1)
                                                                                                                (∃ (n_16 : Int),
                                                                                                                  World.cell? w1_3 (Sl.at s 1 9) = some (Value.int IntKind.i64 n_16) ∧
                                                                                                                    Need
                                                                                                                      (decide (0 ≤ (↑b.2 : Int)) &&
                                                                                                                            decide ((↑b.2 : Int) ≤ (↑b.3 : Int)) &&
                                                                                                                          (decide (0 ≤ (↑b.2 : Int)) &&
                                                                                                                            decide
                                                                                                                              ((↑b.2 : Int) ≤ (↑(Int.toNat (↑b.2 : Int)) : Int))) &&
                                                                                                                        (decide (0 ≤ wr IntKind.i64 (4 * n)) &&
                                                                                                                          decide
                                                                                                                            (wr IntKind.i64 (4 * n) ≤
                                                                                                                              (↑(Int.toNat (↑b.2 : Int)) : Int))))
                                                                                                                      (∀ (w1 : World),
                                                                                                                        Upd [b_3] [] w1_3 w1 →
                                                                                                                          R
                                                                                                                            (SV.tuple
                                                                                                                              [SV.struct
                                                                                                                                  [SV.int IntKind.i64 n_10, SV.int IntKind.i64 n_11,
                                                                                                                                    SV.int IntKind.i64 n_12, SV.int IntKind.i64 n_13,
                                                                                                                                    SV.int IntKind.i64 n_14, SV.int IntKind.i64 n_15,
                                                                                                                                    SV.int IntKind.i64 n_16, SV.slice s_3,
                                                                                                                                    SV.slice
                                                                                                                                      (Sl.sub b 1 (Int.toNat (wr IntKind.i64 (4 * n)))
                                                                                                                                        (Int.toNat (↑b.2 : Int))
                                                                                                                                        (Int.toNat (↑b.2 : Int)))],
                                                                                                                                SV.int IntKind.i64 0])
                                                                                                                            w1)))))))))) →
                                                            J n_2 n_3 n_4 n_5 n_6 n_7 n_8 s_1 s_2 w1) →
                                                        Br (decide (wr IntKind.i64 (4 * n) < 20))
                                                          (∀ (w1 : World),
                                                            Upd [b_3] [] w1_2 w1 →
                                                              R
                                                                (SV.tuple
                                                                  [SV.struct
                                                                      [SV.int IntKind.i64 0, SV.int IntKind.i64 0, SV.int IntKind.i64 0, SV.int IntKind.i64 0, SV.int IntKind.i64 0,
                                                                        SV.int IntKind.i64 0, SV.int IntKind.i64 0, SV.slice { ptr := none, len := 0, cap := 0 },
                                                                        SV.slice { ptr := none, len := 0, cap := 0 }],
                                                                    SV.int IntKind.i64 95])
                                                                w1)
                                                          (Br (decide (wr IntKind.i64 (4 * n) > (↑b.2 : Int)))
                                                            (∀ (w1 : World),
                                                              Upd [b_3] [] w1_2 w1 →
                                                                R
                                                                  (SV.tuple
                                                                    [SV.struct
                                                                        [SV.int IntKind.i64 0, SV.int IntKind.i64 0, SV.int IntKind.i64 0, SV.int IntKind.i64 0, SV.int IntKind.i64 0,
                                                                          SV.int IntKind.i64 0, SV.int IntKind.i64 0, SV.slice { ptr := none, len := 0, cap := 0 },
                                                                          SV.slice { ptr := none, len := 0, cap := 0 }],
                                                                      SV.int IntKind.i64 95])
                                                                  w1)
                                                            (Ret Tryd.prog 74
                                                              [SV.struct [SV.int IntKind.i64 src_0, SV.arr IntKind.u8 16 src_1],
                                                                SV.struct [SV.int IntKind.i64 dst_0, SV.arr IntKind.u8 16 dst_1], SV.int IntKind.i64 6, SV.slice b]
                                                              w1_2 fun (r : SV) (w1 : World) =>
                                                              ∃ (b : Bool),
                                                                r = SV.bool b ∧
                                                                  Keeps [b_1, b_2, b_3] w1_2 w1 ∧
                                                                    Br (!b)
                                                                      (∀ (w1_3 : World),
                                                                        Upd [b_3] [] w1 w1_3 →
                                                                          R
                                                                            (SV.tuple
                                                                              [SV.struct
                                                                                  [SV.int IntKind.i64 0, SV.int IntKind.i64 0, SV.int IntKind.i64 0, SV.int IntKind.i64 0,
                                                                                    SV.int IntKind.i64 0, SV.int IntKind.i64 0, SV.int IntKind.i64 0,
                                                                                    SV.slice { ptr := none, len := 0, cap := 0 }, SV.slice { ptr := none, len := 0, cap := 0 }],
                                                                                SV.int IntKind.i64 96])
                                                                            w1_3)
                                                                      (some (SV.box b_1 27 (SV.struct [SV.int IntKind.i64 src_0, SV.arr IntKind.u8 16 src_1])) =
                                                                          some (SV.box b_1 27 (SV.struct [SV.int IntKind.i64 src_0, SV.arr IntKind.u8 16 src_1])) ∧
                                                                        some (SV.box b_2 27 (SV.struct [SV.int IntKind.i64 dst_0, SV.arr IntKind.u8 16 dst_1])) =
                                                                            some (SV.box b_2 27 (SV.struct [SV.int IntKind.i64 dst_0, SV.arr IntKind.u8 16 dst_1])) ∧
                                                                          (b_3, 45) = (b_3, 45) ∧
                                                                            J 0 0 0 0 0 0 0 { ptr := none, len := 0, cap := 0 } { ptr := none, len := 0, cap := 0 } w1)))))))
theorem f27_of (src_0 : Int) (src_1 : Nat → Int) (dst_0 : Int) (dst_1 : Nat → Int) (b : Sl) (w : World) (R : SV → World → Prop) (h : vc27 src_0 src_1 dst_0 dst_1 b w R) : Ret Tryd.prog 27 [.struct [.int .i64 src_0, .arr .u8 16 src_1], .struct [.int .i64 dst_0, .arr .u8 16 dst_1], .slice b] w R :=
  have e : vc27 src_0 src_1 dst_0 dst_1 b w R = fnVC X Tryd.f27 a27 [.struct [.int .i64 src_0, .arr .u8 16 src_1], .struct [.int .i64 dst_0, .arr .u8 16 dst_1], .slice b] w R := by kernel_rfl
  fnVC_sound X_ok (n := a27) (e ▸ h) (by kernel_rfl) (by kernel_rfl) rfl rfl

def vc26 (src_0 : Int) (src_1 : Nat → Int) (dst_0 : Int) (dst_1 : Nat → Int) (t_0 : Int) (t_1 : Int) (t_2 : Int) (t_3 : Int) (t_4 : Int) (t_5 : Int) (t_6 : Int) (t_7 : Sl) (t_8 : Sl) (w : World) (R : SV → World → Prop) : Prop :=
  ∀ (b b_1 b_2 : Nat) (w1 : World),
    Upd [] [b_2, b_1, b] w w1 →
      Ret Tryd.prog 70 [SV.struct [SV.int IntKind.i64 src_0, SV.arr IntKind.u8 16 src_1], SV.struct [SV.int IntKind.i64 dst_0, SV.arr IntKind.u8 16 dst_1]] w1
        fun (r : SV) (w1_1 : World) =>
        ∃ (n : Int),
          r = SV.int IntKind.i64 n ∧
            Keeps [b, b_1, b_2] w1 w1_1 ∧
              ∀ (J : Int → World → Prop),
                (∀ (n : Int) (w1 : World),
                    Br (n != 0) (R (SV.tuple [SV.slice { ptr := none, len := 0, cap := 0 }, SV.int IntKind.i64 n]) w1)
                        (Ret Tryd.prog 39 [SV.slice t_7] w1 fun (r : SV) (w1_2 : World) =>
                          ∃ (s : Sl),
                            ∃ (n : Int),
                              r = SV.tuple [SV.slice s, SV.int IntKind.i64 n] ∧
                                Keeps [b, b_1, b_2] w1 w1_2 ∧
                                  ∃ (f : Nat → Int),
                                    (∀ (i : Nat), i < 10 → World.cell? w1_2 (Addr.add { block := 1, off := 0 } (0 + i)) = some (Value.int IntKind.i64 (f i))) ∧
                                      ∀ (b_3 : Nat) (w1 : World),
                                        Upd [] [b_3] w1_2 w1 →
                                          (World.heap w1)[b_3]? = some (Obj.cells { toList := SV.cells (SV.arr IntKind.i64 10 f) } 127) →
                                            Off b_3 [b, b_1, b_2] →
                                              (Upd [] [] w1 w1 ∧
                                                  ∀ (b_4 : Nat) (w1_3 : World),
                                                    Upd [] [b_4] w1 w1_3 →
                                                      (World.heap w1_3)[b_4]? =
                                                          some
                                                            (Obj.cells
                                                              {
                                                                toList :=
                                                                  SV.cells
                                                                    (SV.struct
                                                                      [SV.int IntKind.i64 t_0, SV.int IntKind.i64 t_1, SV.int IntKind.i64 t_2, SV.int IntKind.i64 t_3,
                                                                        SV.int IntKind.i64 (wr IntKind.i64 (Int.tdiv (wr IntKind.i64 (20 + (↑s.2 : Int))) 4)), SV.int IntKind.i64 0,
                                                                        SV.int IntKind.i64 t_4, SV.int IntKind.i64 t_5, SV.int IntKind.i64 0, SV.int IntKind.i64 t_6]) }
                                                              3) →
                                                        Ret Tryd.prog 71
                                                          [SV.slice (Sl.sub { ptr := some { block := b_3, off := 0 }, len := 10, cap := 10 } 1 0 10 10),
                                                            SV.slice { ptr := some { block := b_4, off := 0 }, len := 10, cap := 10 }]
                                                          w1_3 fun (r : SV) (w1 : World) =>
                                                          ∃ (s_1 : Sl),
                                                            ∃ (n : Int),
                                                              r = SV.tuple [SV.slice s_1, SV.int IntKind.i64 n] ∧
                                                                Keeps [b, b_1, b_2] w1_3 w1 ∧
                                                                  Vc.Append 5 1 1 s_1 s [b, b_1, b_2] w1 fun (r : Sl) (w : World) =>
                                                                    Vc.Append 5 1 1 r t_8 [b, b_1, b_2] w fun (r : Sl) (w : World) =>
                                                                      Ret Tryd.prog 22
                                                                        [SV.struct [SV.int IntKind.i64 src_0, SV.arr IntKind.u8 16 src_1],
                                                                          SV.struct [SV.int IntKind.i64 dst_0, SV.arr IntKind.u8 16 dst_1], SV.int IntKind.i64 6,
                                                                          SV.int IntKind.i64 (↑r.2 : Int)]
                                                                        w fun (r_1 : SV) (w1 : World) =>
                                                                        ∃ (s : Sl),
                                                                          ∃ (n : Int),
                                                                            r_1 = SV.tuple [SV.slice s, SV.int IntKind.i64 n] ∧
                                                                              Keeps [b, b_1, b_2] w w1 ∧
                                                                                ∀ (b_5 : Nat) (w1_4 : World),
                                                                                  Upd [] [b_5] w1 w1_4 →
                                                                                    (World.heap w1_4)[b_5]? =
                                                                                        some (Obj.cells { toList := SV.cells (SV.struct [SV.slice s, SV.slice r]) } 28) →
                                                                                      Ret Tryd.prog 72 [SV.slice { ptr := some { block := b_5, off := 0 }, len := 2, cap := 2 }] w1_4
                                                                                        fun (r_2 : SV) (w1 : World) =>
                                                                                        ∃ (n : Int),
                                                                                          r_2 = SV.int IntKind.i64 n ∧
                                                                                            Keeps [b, b_1, b_2] w1_4 w1 ∧
                                                                                              Need (decide (16 < (↑r.2 : Int)) && Option.isSome r.1)
                                                                                                (Store w1 (Sl.at r 1 16)
                                                                                                  (SV.cells (SV.int IntKind.u8 (wr IntKind.u8 (gshr IntKind.i64 n 8)))) [b, b_1, b_2]
                                                                                                  fun (w1 : World) =>
                                                                                                  Need (decide (17 < (↑r.2 : Int)) && Option.isSome r.1)
                                                                                                    (Store w1 (Sl.at r 1 17) (SV.cells (SV.int IntKind.u8 (wr IntKind.u8 n)))
                                                                                                      [b, b_1, b_2] fun (w1 : World) =>
                                                                                                      R (SV.tuple [SV.slice r, SV.int IntKind.i64 0]) w1))) ∧
                                                ∀ (b_4 : Nat) (w1_3 : World),
                                                  Upd [] [b_4] w1 w1_3 →
                                                    (World.heap w1_3)[b_4]? =
                                                        some
                                                          (Obj.cells
                                                            {
                                                              toList :=
                                                                SV.cells
                                                                  (SV.struct
                                                                    [SV.int IntKind.i64 t_0, SV.int IntKind.i64 t_1, SV.int IntKind.i64 t_2, SV.int IntKind.i64 t_3,
                                                                      SV.int IntKind.i64 (wr IntKind.i64 (Int.tdiv (wr IntKind.i64 (20 + (↑s.2 : Int))) 4)), SV.int IntKind.i64 0,
                                                                      SV.int IntKind.i64 t_4, SV.int IntKind.i64 t_5, SV.int IntKind.i64 0, SV.int IntKind.i64 t_6]) }
                                                            3) →
                                                      Upd [] [] w1 w1_3 ∧
                                                        Ret Tryd.prog 71
                                                          [SV.slice (Sl.sub { ptr := some { block := b_3, off := 0 }, len := 10, cap := 10 } 1 0 10 10),
                                                            SV.slice { ptr := some { block := b_4, off := 0 }, len := 10, cap := 10 }]
                                                          w1_3 fun (r : SV) (w1 : World) =>
                                                          ∃ (s_1 : Sl),
                                                            ∃ (n : Int),
                                                              r = SV.tuple [SV.slice s_1, SV.int IntKind.i64 n] ∧
                                                                Keeps [b, b_1, b_2] w1_3 w1 ∧
                                                                  Vc.Append 5 1 1 s_1 s [b, b_1, b_2] w1 fun (r : Sl) (w : World) =>
                                                                    Vc.Append 5 1 1 r t_8 [b, b_1, b_2] w fun (r : Sl) (w : World) =>
                                                                      Ret Tryd.prog 22
                                                                        [SV.struct [SV.int IntKind.i64 src_0, SV.arr IntKind.u8 16 src_1],
                                                                          SV.struct [SV.int IntKind.i64 dst_0, SV.arr IntKind.u8 16 dst_1], SV.int IntKind.i64 6,
                                                                          SV.int IntKind.i64 (↑r.2 : Int)]
                                                                        w fun (r_1 : SV) (w1 : World) =>
                                                                        ∃ (s : Sl),
                                                                          ∃ (n : Int),
                                                                            r_1 = SV.tuple [SV.slice s, SV.int IntKind.i64 n] ∧
                                                                              Keeps [b, b_1, b_2] w w1 ∧
                                                                                ∀ (b_5 : Nat) (w1_4 : World),
                                                                                  Upd [] [b_5] w1 w1_4 →
                                                                                    (World.heap w1_4)[b_5]? =
                                                                                        some (Obj.cells { toList := SV.cells (SV.struct [SV.slice s, SV.slice r]) } 28) →
                                                                                      Ret Tryd.prog 72 [SV.slice { ptr := some { block := b_5, off := 0 }, len := 2, cap := 2 }] w1_4
                                                                                        fun (r_2 : SV) (w1 : World) =>
                                                                                        ∃ (n : Int),
                                                                                          r_2 = SV.int IntKind.i64 n ∧
                                                                                            Keeps [b, b_1, b_2] w1_4 w1 ∧
                                                                                              Need (decide (16 < (↑r.2 : Int)) && Option.isSome r.1)
                                                                                                (Store w1 (Sl.at r 1 16)
                                                                                                  (SV.cells (SV.int IntKind.u8 (wr IntKind.u8 (gshr IntKind.i64 n 8)))) [b, b_1, b_2]
                                                                                                  fun (w1 : World) =>
                                                                                                  Need (decide (17 < (↑r.2 : Int)) && Option.isSome r.1)
                                                                                                    (Store w1 (Sl.at r 1 17) (SV.cells (SV.int IntKind.u8 (wr IntKind.u8 n)))
                                                                                                      [b, b_1, b_2] fun (w1 : World) =>
                                                                                                      R (SV.tuple [SV.slice r, SV.int IntKind.i64 0]) w1))) →
                      J n w1) →
                  Br (n == 0)
                    (Ret Tryd.prog 29
                      [SV.struct
                          [SV.int IntKind.i64 t_0, SV.int IntKind.i64 t_1, SV.int IntKind.i64 t_2, SV.int IntKind.i64 t_3, SV.int IntKind.i64 t_4, SV.int IntKind.i64 t_5,
                            SV.int IntKind.i64 t_6, SV.slice t_7, SV.slice t_8]]
                      w1_1 fun (r : SV) (w1 : World) =>
                      ∃ (n : Int),
                        r = SV.int IntKind.i64 n ∧
                          Keeps [b, b_1, b_2] w1_1 w1 ∧
                            some (SV.box b 27 (SV.struct [SV.int IntKind.i64 src_0, SV.arr IntKind.u8 16 src_1])) =
                                some (SV.box b 27 (SV.struct [SV.int IntKind.i64 src_0, SV.arr IntKind.u8 16 src_1])) ∧
                              some (SV.box b_1 27 (SV.struct [SV.int IntKind.i64 dst_0, SV.arr IntKind.u8 16 dst_1])) =
                                  some (SV.box b_1 27 (SV.struct [SV.int IntKind.i64 dst_0, SV.arr IntKind.u8 16 dst_1])) ∧
                                some
                                      (SV.box b_2 45
                                        (SV.struct
                                          [SV.int IntKind.i64 t_0, SV.int IntKind.i64 t_1, SV.int IntKind.i64 t_2, SV.int IntKind.i64 t_3, SV.int IntKind.i64 t_4,
                                            SV.int IntKind.i64 t_5, SV.int IntKind.i64 t_6, SV.slice t_7, SV.slice t_8])) =
                                    some
                                      (SV.box b_2 45
                                        (SV.struct
                                          [SV.int IntKind.i64 t_0, SV.int IntKind.i64 t_1, SV.int IntKind.i64 t_2, SV.int IntKind.i64 t_3, SV.int IntKind.i64 t_4,
                                            SV.int IntKind.i64 t_5, SV.int IntKind.i64 t_6, SV.slice t_7, SV.slice t_8])) ∧
                                  J n w1)
                    (some (SV.box b 27 (SV.struct [SV.int IntKind.i64 src_0, SV.arr IntKind.u8 16 src_1])) =
                        some (SV.box b 27 (SV.struct [SV.int IntKind.i64 src_0, SV.arr IntKind.u8 16 src_1])) ∧
                      some (SV.box b_1 27 (SV.struct [SV.int IntKind.i64 dst_0, SV.arr IntKind.u8 16 dst_1])) =
                          some (SV.box b_1 27 (SV.struct [SV.int IntKind.i64 dst_0, SV.arr IntKind.u8 16 dst_1])) ∧
                        some
                              (SV.box b_2 45
                                (SV.struct
                                  [SV.int IntKind.i64 t_0, SV.int IntKind.i64 t_1, SV.int IntKind.i64 t_2, SV.int IntKind.i64 t_3, SV.int IntKind.i64 t_4, SV.int IntKind.i64 t_5,
                                    SV.int IntKind.i64 t_6, SV.slice t_7, SV.slice t_8])) =
                            some
                              (SV.box b_2 45
                                (SV.struct
                                  [SV.int IntKind.i64 t_0, SV.int IntKind.i64 t_1, SV.int IntKind.i64 t_2, SV.int IntKind.i64 t_3, SV.int IntKind.i64 t_4, SV.int IntKind.i64 t_5,
                                    SV.int IntKind.i64 t_6, SV.slice t_7, SV.slice t_8])) ∧
                          J n w1_1)
theorem f26_of (src_0 : Int) (src_1 : Nat → Int) (dst_0 : Int) (dst_1 : Nat → Int) (t_0 : Int) (t_1 : Int) (t_2 : Int) (t_3 : Int) (t_4 : Int) (t_5 : Int) (t_6 : Int) (t_7 : Sl) (t_8 : Sl) (w : World) (R : SV → World → Prop) (h : vc26 src_0 src_1 dst_0 dst_1 t_0 t_1 t_2 t_3 t_4 t_5 t_6 t_7 t_8 w R) : Ret Tryd.prog 26 [.struct [.int .i64 src_0, .arr .u8 16 src_1], .struct [.int .i64 dst_0, .arr .u8 16 dst_1], .struct [.int .i64 t_0, .int .i64 t_1, .int .i64 t_2, .int .i64 t_3, .int .i64 t_4, .int .i64 t_5, .int .i64 t_6, .slice t_7, .slice t_8]] w R :=
  have e : vc26 src_0 src_1 dst_0 dst_1 t_0 t_1 t_2 t_3 t_4 t_5 t_6 t_7 t_8 w R = fnVC X Tryd.f26 a26 [.struct [.int .i64 src_0, .arr .u8 16 src_1], .struct [.int .i64 dst_0, .arr .u8 16 dst_1], .struct [.int .i64 t_0, .int .i64 t_1, .int .i64 t_2, .int .i64 t_3, .int .i64 t_4, .int .i64 t_5, .int .i64 t_6, .slice t_7, .slice t_8]] w R := by kernel_rfl
  fnVC_sound X_ok (n := a26) (e ▸ h) (by kernel_rfl) (by kernel_rfl) rfl rfl

def vc55 (src_0 : Int) (src_1 : Nat → Int) (dst_0 : Int) (dst_1 : Nat → Int) (t_0 : Int) (t_1 : Int) (t_2 : Int) (t_3 : Int) (t_4 : Int) (t_5 : Int) (t_6 : Int) (t_7 : Sl) (t_8 : Sl) (w : World) (R : SV → World → Prop) : Prop :=
  ∀ (b b_1 b_2 : Nat) (w1 : World),
    Upd [] [b_2, b_1, b] w w1 →
      Ret Tryd.prog 83 [SV.struct [SV.int IntKind.i64 src_0, SV.arr IntKind.u8 16 src_1], SV.struct [SV.int IntKind.i64 dst_0, SV.arr IntKind.u8 16 dst_1]] w1
        fun (r : SV) (w1_1 : World) =>
        ∃ (b_3 : Bool),
          r = SV.bool b_3 ∧
            Keeps [b, b_1, b_2] w1 w1_1 ∧
              Br (!b_3) (R (SV.tuple [SV.slice { ptr := none, len := 0, cap := 0 }, SV.int IntKind.i64 20]) w1_1)
                (Ret Tryd.prog 60
                  [SV.struct
                      [SV.int IntKind.i64 t_0, SV.int IntKind.i64 t_1, SV.int IntKind.i64 t_2, SV.int IntKind.i64 t_3, SV.int IntKind.i64 t_4, SV.int IntKind.i64 t_5,
                        SV.int IntKind.i64 t_6, SV.slice t_7, SV.slice t_8]]
                  w1_1 fun (r : SV) (w1 : World) =>
                  ∃ (n : Int),
                    r = SV.int IntKind.i64 n ∧
                      Keeps [b, b_1, b_2] w1_1 w1 ∧
                        Br (n != 0) (R (SV.tuple [SV.slice { ptr := none, len := 0, cap := 0 }, SV.int IntKind.i64 n]) w1)
                          (Ret Tryd.prog 56 [SV.slice t_7] w1 fun (r : SV) (w1_2 : World) =>
                            ∃ (s : Sl),
                              ∃ (n : Int),
                                r = SV.tuple [SV.slice s, SV.int IntKind.i64 n] ∧
                                  Keeps [b, b_1, b_2] w1 w1_2 ∧
                                    Ret Tryd.prog 89 [SV.slice { ptr := none, len := 0, cap := 0 }, SV.int IntKind.i64 t_0, SV.int IntKind.i64 2] w1_2 fun (r : SV) (w1 : World) =>
                                      ∃ (s_1 : Sl),
                                        r = SV.slice s_1 ∧
                                          Keeps [b, b_1, b_2] w1_2 w1 ∧
                                            Ret Tryd.prog 89 [SV.slice s_1, SV.int IntKind.i64 t_1, SV.int IntKind.i64 2] w1 fun (r : SV) (w1_3 : World) =>
                                              ∃ (s_2 : Sl),
                                                r = SV.slice s_2 ∧
                                                  Keeps [b, b_1, b_2] w1 w1_3 ∧
                                                    Ret Tryd.prog 89 [SV.slice s_2, SV.int IntKind.i64 t_2, SV.int IntKind.i64 4] w1_3 fun (r : SV) (w1 : World) =>
                                                      ∃ (s_3 : Sl),
                                                        r = SV.slice s_3 ∧
                                                          Keeps [b, b_1, b_2] w1_3 w1 ∧
                                                            Ret Tryd.prog 89 [SV.slice s_3, SV.int IntKind.i64 t_3, SV.int IntKind.i64 4] w1 fun (r : SV) (w1_4 : World) =>
                                                              ∃ (s_4 : Sl),
                                                                r = SV.slice s_4 ∧
                                                                  Keeps [b, b_1, b_2] w1 w1_4 ∧
                                                                    Ret Tryd.prog 89
                                                                      [SV.slice s_4,
                                                                        SV.int IntKind.i64 (wr IntKind.i64 (wr IntKind.i64 (Int.tdiv (wr IntKind.i64 (20 + (↑s.2 : Int))) 4) * 16)),
                                                                        SV.int IntKind.i64 1]
                                                                      w1_4 fun (r : SV) (w1 : World) =>
                                                                      ∃ (s_5 : Sl),
                                                                        r = SV.slice s_5 ∧
                                                                          Keeps [b, b_1, b_2] w1_4 w1 ∧
                                                                            Ret Tryd.prog 89 [SV.slice s_5, SV.int IntKind.i64 t_4, SV.int IntKind.i64 1] w1
                                                                              fun (r : SV) (w1_5 : World) =>
                                                                              ∃ (s_6 : Sl),
                                                                                r = SV.slice s_6 ∧
                                                                                  Keeps [b, b_1, b_2] w1 w1_5 ∧
                                                                                    Ret Tryd.prog 89 [SV.slice s_6, SV.int IntKind.i64 t_5, SV.int IntKind.i64 2] w1_5
                                                                                      fun (r : SV) (w1 : World) =>
                                                                                      ∃ (s_7 : Sl),
                                                                                        r = SV.slice s_7 ∧
                                                                                          Keeps [b, b_1, b_2] w1_5 w1 ∧
                                                                                            Ret Tryd.prog 89 [SV.slice s_7, SV.int IntKind.i64 0, SV.int IntKind.i64 2] w1
                                                                                              fun (r : SV) (w1_6 : World) =>
                                                                                              ∃ (s_8 : Sl),
                                                                                                r = SV.slice s_8 ∧
                                                                                                  Keeps [b, b_1, b_2] w1 w1_6 ∧
                                                                                                    Ret Tryd.prog 89 [SV.slice s_8, SV.int IntKind.i64 t_6, SV.int IntKind.i64 2] w1_6
                                                                                                      fun (r : SV) (w1 : World) =>
                                                                                                      ∃ (s_9 : Sl),
                                                                                                        r = SV.slice s_9 ∧
                                                                                                          Keeps [b, b_1, b_2] w1_6 w1 ∧
                                                                                                            Vc.Append 5 1 1 s_9 s [b, b_1, b_2] w1 fun (r : Sl) (w : World) =>
                                                                                                              Vc.Append 5 1 1 r t_8 [b, b_1, b_2] w fun (r : Sl) (w : World) =>
                                                                                                                Ret Tryd.prog 90
                                                                                                                  [SV.struct [SV.int IntKind.i64 src_0, SV.arr IntKind.u8 16 src_1],
                                                                                                                    SV.struct [SV.int IntKind.i64 dst_0, SV.arr IntKind.u8 16 dst_1],
                                                                                                                    SV.int IntKind.i64 6, SV.slice r]
                                                                                                                  w fun (r_1 : SV) (w1 : World) =>
                                                                                                                  ∃ (n : Int),
                                                                                                                    r_1 = SV.int IntKind.i64 n ∧
                                                                                                                      Keeps [b, b_1, b_2] w w1 ∧
                                                                                                                        Need (decide (16 < (↑r.2 : Int)) && Option.isSome r.1)
                                                                                                                          (Store w1 (Sl.at r 1 16)
                                                                                                                            (SV.cells
                                                                                                                              (SV.int IntKind.u8
                                                                                                                                (wr IntKind.u8 (wr IntKind.i64 (Int.tdiv n 256)))))
                                                                                                                            [b, b_1, b_2] fun (w1 : World) =>
                                                                                                                            Need (decide (17 < (↑r.2 : Int)) && Option.isSome r.1)
                                                                                                                              (Store w1 (Sl.at r 1 17)
                                                                                                                                (SV.cells
                                                                                                                                  (SV.int IntKind.u8
                                                                                                                                    (wr IntKind.u8 (Int.tmod n 256))))
                                                                                                                                [b, b_1, b_2] fun (w1 : World) =>
                                                                                                                                R (SV.tuple [SV.slice r, SV.int IntKind.i64 0]) w1))))
theorem f55_of (src_0 : Int) (src_1 : Nat → Int) (dst_0 : Int) (dst_1 : Nat → Int) (t_0 : Int) (t_1 : Int) (t_2 : Int) (t_3 : Int) (t_4 : Int) (t_5 : Int) (t_6 : Int) (t_7 : Sl) (t_8 : Sl) (w : World) (R : SV → World → Prop) (h : vc55 src_0 src_1 dst_0 dst_1 t_0 t_1 t_2 t_3 t_4 t_5 t_6 t_7 t_8 w R) : Ret Tryd.prog 55 [.struct [.int .i64 src_0, .arr .u8 16 src_1], .struct [.int .i64 dst_0, .arr .u8 16 dst_1], .struct [.int .i64 t_0, .int .i64 t_1, .int .i64 t_2, .int .i64 t_3, .int .i64 t_4, .int .i64 t_5, .int .i64 t_6, .slice t_7, .slice t_8]] w R :=
  have e : vc55 src_0 src_1 dst_0 dst_1 t_0 t_1 t_2 t_3 t_4 t_5 t_6 t_7 t_8 w R = fnVC X Tryd.f55 a55 [.struct [.int .i64 src_0, .arr .u8 16 src_1], .struct [.int .i64 dst_0, .arr .u8 16 dst_1], .struct [.int .i64 t_0, .int .i64 t_1, .int .i64 t_2, .int .i64 t_3, .int .i64 t_4, .int .i64 t_5, .int .i64 t_6, .slice t_7, .slice t_8]] w R := by kernel_rfl
  fnVC_sound X_ok (n := a55) (e ▸ h) (by kernel_rfl) (by kernel_rfl) rfl rfl

def vc28 (a_0 : Int) (a_1 : Int) (a_2 : Int) (a_3 : Int) (a_4 : Int) (a_5 : Int) (a_6 : Int) (a_7 : Sl) (a_8 : Sl) (b_0 : Int) (b_1 : Int) (b_2 : Int) (b_3 : Int) (b_4 : Int) (b_5 : Int) (b_6 : Int) (b_7 : Sl) (b_8 : Sl) (w : World) (R : SV → World → Prop) : Prop :=
  ∀ (b b_9 : Nat) (J : World → Prop),
    (∀ (w1 : World),
        (Ret Tryd.prog 47 [SV.slice a_7, SV.slice b_7] w1 fun (r : SV) (w1_1 : World) =>
            ∃ (b_10 : Bool),
              r = SV.bool b_10 ∧
                Keeps [b, b_9] w1 w1_1 ∧
                  Br b_10
                    (Ret Tryd.prog 30 [SV.slice a_8, SV.slice b_8] w1_1 fun (r : SV) (w1 : World) => ∃ (b_11 : Bool), r = SV.bool b_11 ∧ Keeps [b, b_9] w1_1 w1 ∧ R (SV.bool b_11) w1)
                    (R (SV.bool false) w1_1)) →
          J w1) →
      Br (a_0 != b_0) (∀ (w1 : World), Upd [] [b_9, b] w w1 → R (SV.bool false) w1)
        (Br (a_1 != b_1) (∀ (w1 : World), Upd [] [b_9, b] w w1 → R (SV.bool false) w1)
          (Br (a_2 != b_2) (∀ (w1 : World), Upd [] [b_9, b] w w1 → R (SV.bool false) w1)
            (Br (a_3 != b_3) (∀ (w1 : World), Upd [] [b_9, b] w w1 → R (SV.bool false) w1)
              (Br (a_4 != b_4) (∀ (w1 : World), Upd [] [b_9, b] w w1 → R (SV.bool false) w1)
                (Br (a_5 != b_5) (∀ (w1 : World), Upd [] [b_9, b] w w1 → R (SV.bool false) w1)
                  (Br (a_6 != b_6) (∀ (w1 : World), Upd [] [b_9, b] w w1 → R (SV.bool false) w1)
                    (∀ (w1 : World),
                      Upd [] [b_9, b] w w1 →
                        some
                              (SV.box b 45
                                (SV.struct
                                  [SV.int IntKind.i64 a_0, SV.int IntKind.i64 a_1, SV.int IntKind.i64 a_2, SV.int IntKind.i64 a_3, SV.int IntKind.i64 a_4, SV.int IntKind.i64 a_5,
                                    SV.int IntKind.i64 a_6, SV.slice a_7, SV.slice a_8])) =
                            some
                              (SV.box b 45
                                (SV.struct
                                  [SV.int IntKind.i64 a_0, SV.int IntKind.i64 a_1, SV.int IntKind.i64 a_2, SV.int IntKind.i64 a_3, SV.int IntKind.i64 a_4, SV.int IntKind.i64 a_5,
                                    SV.int IntKind.i64 a_6, SV.slice a_7, SV.slice a_8])) ∧
                          some
                                (SV.box b_9 45
                                  (SV.struct
                                    [SV.int IntKind.i64 b_0, SV.int IntKind.i64 b_1, SV.int IntKind.i64 b_2, SV.int IntKind.i64 b_3, SV.int IntKind.i64 b_4, SV.int IntKind.i64 b_5,
                                      SV.int IntKind.i64 b_6, SV.slice b_7, SV.slice b_8])) =
                              some
                                (SV.box b_9 45
                                  (SV.struct
                                    [SV.int IntKind.i64 b_0, SV.int IntKind.i64 b_1, SV.int IntKind.i64 b_2, SV.int IntKind.i64 b_3, SV.int IntKind.i64 b_4, SV.int IntKind.i64 b_5,
                                      SV.int IntKind.i64 b_6, SV.slice b_7, SV.slice b_8])) ∧
                            J w1)))))))
theorem f28_of (a_0 : Int) (a_1 : Int) (a_2 : Int) (a_3 : Int) (a_4 : Int) (a_5 : Int) (a_6 : Int) (a_7 : Sl) (a_8 : Sl) (b_0 : Int) (b_1 : Int) (b_2 : Int) (b_3 : Int) (b_4 : Int) (b_5 : Int) (b_6 : Int) (b_7 : Sl) (b_8 : Sl) (w : World) (R : SV → World → Prop) (h : vc28 a_0 a_1 a_2 a_3 a_4 a_5 a_6 a_7 a_8 b_0 b_1 b_2 b_3 b_4 b_5 b_6 b_7 b_8 w R) : Ret Tryd.prog 28 [.struct [.int .i64 a_0, .int .i64 a_1, .int .i64 a_2, .int .i64 a_3, .int .i64 a_4, .int .i64 a_5, .int .i64 a_6, .slice a_7, .slice a_8], .struct [.int .i64 b_0, .int .i64 b_1, .int .i64 b_2, .int .i64 b_3, .int .i64 b_4, .int .i64 b_5, .int .i64 b_6, .slice b_7, .slice b_8]] w R :=
  have e : vc28 a_0 a_1 a_2 a_3 a_4 a_5 a_6 a_7 a_8 b_0 b_1 b_2 b_3 b_4 b_5 b_6 b_7 b_8 w R = fnVC X Tryd.f28 a28 [.struct [.int .i64 a_0, .int .i64 a_1, .int .i64 a_2, .int .i64 a_3, .int .i64 a_4, .int .i64 a_5, .int .i64 a_6, .slice a_7, .slice a_8], .struct [.int .i64 b_0, .int .i64 b_1, .int .i64 b_2, .int .i64 b_3, .int .i64 b_4, .int .i64 b_5, .int .i64 b_6, .slice b_7, .slice b_8]] w R := by kernel_rfl
  fnVC_sound X_ok (n := a28) (e ▸ h) (by kernel_rfl) (by kernel_rfl) rfl rfl

def vc38 (t_0 : Int) (t_1 : Int) (t_2 : Int) (t_3 : Int) (t_4 : Int) (t_5 : Int) (t_6 : Int) (t_7 : Sl) (t_8 : Sl) (w : World) (R : SV → World → Prop) : Prop :=
  ∀ (b b_1 : Nat) (w1 : World),
    Upd [] [b_1, b] w w1 →
      Ret Tryd.prog 80 [SV.slice t_7] w1 fun (r : SV) (w1_1 : World) =>
        ∃ (s : Sl),
          r = SV.slice s ∧
            Keeps [b, b_1] w1 w1_1 ∧
              ∀ (w1 : World),
                Upd [b] [] w1_1 w1 →
                  Ret Tryd.prog 40 [SV.slice t_8] w1 fun (r : SV) (w1_2 : World) =>
                    ∃ (s_1 : Sl),
                      r = SV.slice s_1 ∧
                        Keeps [b, b_1] w1 w1_2 ∧
                          ∀ (w1 : World),
                            Upd [b_1, b] [] w1_2 w1 →
                              R
                                (SV.struct
                                  [SV.int IntKind.i64 t_0, SV.int IntKind.i64 t_1, SV.int IntKind.i64 t_2, SV.int IntKind.i64 t_3, SV.int IntKind.i64 t_4, SV.int IntKind.i64 t_5,
                                    SV.int IntKind.i64 t_6, SV.slice s, SV.slice s_1])
                                w1
theorem f38_of (t_0 : Int) (t_1 : Int) (t_2 : Int) (t_3 : Int) (t_4 : Int) (t_5 : Int) (t_6 : Int) (t_7 : Sl) (t_8 : Sl) (w : World) (R : SV → World → Prop) (h : vc38 t_0 t_1 t_2 t_3 t_4 t_5 t_6 t_7 t_8 w R) : Ret Tryd.prog 38 [.struct [.int .i64 t_0, .int .i64 t_1, .int .i64 t_2, .int .i64 t_3, .int .i64 t_4, .int .i64 t_5, .int .i64 t_6, .slice t_7, .slice t_8]] w R :=
  have e : vc38 t_0 t_1 t_2 t_3 t_4 t_5 t_6 t_7 t_8 w R = fnVC X Tryd.f38 a38 [.struct [.int .i64 t_0, .int .i64 t_1, .int .i64 t_2, .int .i64 t_3, .int .i64 t_4, .int .i64 t_5, .int .i64 t_6, .slice t_7, .slice t_8]] w R := by kernel_rfl
  fnVC_sound X_ok (n := a38) (e ▸ h) (by kernel_rfl) (by kernel_rfl) rfl rfl

def vc36 (t_0 : Int) (t_1 : Int) (t_2 : Int) (t_3 : Int) (t_4 : Int) (t_5 : Int) (t_6 : Int) (t_7 : Sl) (t_8 : Sl) (w : World) (R : SV → World → Prop) : Prop :=
  ∀ (b : Nat),
    ∃ (I : Int → World → Prop),
      ∃ (M : Int → World → Nat),
        (∀ (w1 : World), Upd [] [b] w w1 → I 0 w1) ∧
          ∀ (n : Int) (w1 : World),
            I n w1 →
              Br (decide (n < (↑t_7.2 : Int)))
                (Need (decide (0 ≤ n) && decide (n < (↑t_7.2 : Int)) && Option.isSome t_7.1)
                  (∃ (n_1 : Int),
                    World.cell? w1 (Sl.at t_7 2 (Int.toNat n)) = some (Value.int IntKind.i64 n_1) ∧
                      ∃ (s : Sl),
                        World.cell? w1 (Addr.add (Sl.at t_7 2 (Int.toNat n)) 1) = some (Sl.val s) ∧
                          ∀ (b_1 : Nat) (w1_1 : World),
                            Upd [] [b_1] w1 w1_1 →
                              Ret Tryd.prog 79 [SV.struct [SV.int IntKind.i64 n_1, SV.slice s]] w1_1 fun (r : SV) (w1_2 : World) =>
                                ∃ (n_2 : Int),
                                  ∃ (b_2 : Bool),
                                    r = SV.tuple [SV.int IntKind.i64 n_2, SV.bool b_2] ∧
                                      Keeps [b, b_1] w1_1 w1_2 ∧
                                        Br b_2 (R (SV.tuple [SV.int IntKind.i64 n_2, SV.bool true]) w1_2)
                                          (some
                                                (SV.box b 45
                                                  (SV.struct
                                                    [SV.int IntKind.i64 t_0, SV.int IntKind.i64 t_1, SV.int IntKind.i64 t_2, SV.int IntKind.i64 t_3, SV.int IntKind.i64 t_4,
                                                      SV.int IntKind.i64 t_5, SV.int IntKind.i64 t_6, SV.slice t_7, SV.slice t_8])) =
                                              some
                                                (SV.box b 45
                                                  (SV.struct
                                                    [SV.int IntKind.i64 t_0, SV.int IntKind.i64 t_1, SV.int IntKind.i64 t_2, SV.int IntKind.i64 t_3, SV.int IntKind.i64 t_4,
                                                      SV.int IntKind.i64 t_5, SV.int IntKind.i64 t_6, SV.slice t_7, SV.slice t_8])) ∧
                                            I (wr IntKind.i64 (n + 1)) w1_2 ∧ M (wr IntKind.i64 (n + 1)) w1_2 < M n w1)))
                (R (SV.tuple [SV.int IntKind.i64 0, SV.bool false]) w1)
theorem f36_of (t_0 : Int) (t_1 : Int) (t_2 : Int) (t_3 : Int) (t_4 : Int) (t_5 : Int) (t_6 : Int) (t_7 : Sl) (t_8 : Sl) (w : World) (R : SV → World → Prop) (h : vc36 t_0 t_1 t_2 t_3 t_4 t_5 t_6 t_7 t_8 w R) : Ret Tryd.prog 36 [.struct [.int .i64 t_0, .int .i64 t_1, .int .i64 t_2, .int .i64 t_3, .int .i64 t_4, .int .i64 t_5, .int .i64 t_6, .slice t_7, .slice t_8]] w R :=
  have e : vc36 t_0 t_1 t_2 t_3 t_4 t_5 t_6 t_7 t_8 w R = fnVC X Tryd.f36 a36 [.struct [.int .i64 t_0, .int .i64 t_1, .int .i64 t_2, .int .i64 t_3, .int .i64 t_4, .int .i64 t_5, .int .i64 t_6, .slice t_7, .slice t_8]] w R := by kernel_rfl
  fnVC_sound X_ok (n := a36) (e ▸ h) (by kernel_rfl) (by kernel_rfl) rfl rfl

def vc58 (t_0 : Int) (t_1 : Int) (t_2 : Int) (t_3 : Int) (t_4 : Int) (t_5 : Int) (t_6 : Int) (t_7 : Sl) (t_8 : Sl) (w : World) (R : SV → World → Prop) : Prop :=
  ∀ (b : Nat),
    ∃ (I : Int → World → Prop),
      ∃ (M : Int → World → Nat),
        (∀ (w1 : World), Upd [] [b] w w1 → I 0 w1) ∧
          ∀ (n : Int) (w1 : World),
            I n w1 →
              Br (decide (n < (↑t_7.2 : Int)))
                (Need (decide (0 ≤ n) && decide (n < (↑t_7.2 : Int)) && Option.isSome t_7.1)
                  (∃ (n_1 : Int),
                    World.cell? w1 (Sl.at t_7 2 (Int.toNat n)) = some (Value.int IntKind.i64 n_1) ∧
                      ∃ (s : Sl),
                        World.cell? w1 (Addr.add (Sl.at t_7 2 (Int.toNat n)) 1) = some (Sl.val s) ∧
                          Ret Tryd.prog 92 [SV.struct [SV.int IntKind.i64 n_1, SV.slice s]] w1 fun (r : SV) (w1_1 : World) =>
                            ∃ (b_1 : Bool),
                              r = SV.bool b_1 ∧
                                Keeps [b] w1 w1_1 ∧
                                  Br b_1
                                    (Need (decide (0 ≤ n) && decide (n < (↑t_7.2 : Int)) && Option.isSome t_7.1)
                                      (∃ (s : Sl),
                                        World.cell? w1_1 (Addr.add (Sl.at t_7 2 (Int.toNat n)) 1) = some (Sl.val s) ∧
                                          Ret Tryd.prog 84 [SV.slice s, SV.int IntKind.i64 0, SV.int IntKind.i64 2] w1_1 fun (r : SV) (w1 : World) =>
                                            ∃ (n : Int), r = SV.int IntKind.i64 n ∧ Keeps [b] w1_1 w1 ∧ R (SV.tuple [SV.int IntKind.i64 n, SV.bool true]) w1))
                                    (some
                                          (SV.box b 45
                                            (SV.struct
                                              [SV.int IntKind.i64 t_0, SV.int IntKind.i64 t_1, SV.int IntKind.i64 t_2, SV.int IntKind.i64 t_3, SV.int IntKind.i64 t_4,
                                                SV.int IntKind.i64 t_5, SV.int IntKind.i64 t_6, SV.slice t_7, SV.slice t_8])) =
                                        some
                                          (SV.box b 45
                                            (SV.struct
                                              [SV.int IntKind.i64 t_0, SV.int IntKind.i64 t_1, SV.int IntKind.i64 t_2, SV.int IntKind.i64 t_3, SV.int IntKind.i64 t_4,
                                                SV.int IntKind.i64 t_5, SV.int IntKind.i64 t_6, SV.slice t_7, SV.slice t_8])) ∧
                                      I (wr IntKind.i64 (n + 1)) w1_1 ∧ M (wr IntKind.i64 (n + 1)) w1_1 < M n w1)))
                (R (SV.tuple [SV.int IntKind.i64 0, SV.bool false]) w1)
theorem f58_of (t_0 : Int) (t_1 : Int) (t_2 : Int) (t_3 : Int) (t_4 : Int) (t_5 : Int) (t_6 : Int) (t_7 : Sl) (t_8 : Sl) (w : World) (R : SV → World → Prop) (h : vc58 t_0 t_1 t_2 t_3 t_4 t_5 t_6 t_7 t_8 w R) : Ret Tryd.prog 58 [.struct [.int .i64 t_0, .int .i64 t_1, .int .i64 t_2, .int .i64 t_3, .int .i64 t_4, .int .i64 t_5, .int .i64 t_6, .slice t_7, .slice t_8]] w R :=
  have e : vc58 t_0 t_1 t_2 t_3 t_4 t_5 t_6 t_7 t_8 w R = fnVC X Tryd.f58 a58 [.struct [.int .i64 t_0, .int .i64 t_1, .int .i64 t_2, .int .i64 t_3, .int .i64 t_4, .int .i64 t_5, .int .i64 t_6, .slice t_7, .slice t_8]] w R := by kernel_rfl
  fnVC_sound X_ok (n := a58) (e ▸ h) (by kernel_rfl) (by kernel_rfl) rfl rfl

def vc35 (t_0 : Int) (t_1 : Int) (t_2 : Int) (t_3 : Int) (t_4 : Int) (t_5 : Int) (t_6 : Int) (t_7 : Sl) (t_8 : Sl) (most : Int) (w : World) (R : SV → World → Prop) : Prop :=
  ∀ (b b_1 : Nat),
    ∃ (I : Sl → Int → World → Prop),
      ∃ (M : Sl → Int → World → Nat),
        (∀ (w1 : World), Upd [] [b_1, b] w w1 → I { ptr := none, len := 0, cap := 0 } 0 w1) ∧
          ∀ (s : Sl) (n : Int) (w1 : World),
            I s n w1 →
              Br (decide (n < (↑t_7.2 : Int)))
                (Need (decide (0 ≤ n) && decide (n < (↑t_7.2 : Int)) && Option.isSome t_7.1)
                  (∃ (n_1 : Int),
                    World.cell? w1 (Sl.at t_7 2 (Int.toNat n)) = some (Value.int IntKind.i64 n_1) ∧
                      ∃ (s_1 : Sl),
                        World.cell? w1 (Addr.add (Sl.at t_7 2 (Int.toNat n)) 1) = some (Sl.val s_1) ∧
                          ∀ (b_2 : Nat) (w1_1 : World),
                            Upd [] [b_2] w1 w1_1 →
                              Vc.Append 5 1 1 { ptr := none, len := 0, cap := 0 } s_1 [b, b_1, b_2] w1_1 fun (r : Sl) (w : World) =>
                                ∀ (J : Int → Sl → World → Prop),
                                  (∀ (n_2 : Int) (s_2 : Sl) (w1_2 : World),
                                      (∀ (b_3 : Nat) (w1_3 : World),
                                          Upd [] [b_3] w1_2 w1_3 →
                                            (World.heap w1_3)[b_3]? = some (Obj.cells { toList := SV.cells (SV.struct [SV.struct [SV.int IntKind.i64 n_2, SV.slice s_2]]) } 60) →
                                              Vc.Append 60 2 32 s { ptr := some { block := b_3, off := 0 }, len := 1, cap := 1 } [b, b_1, b_2] w1_3 fun (r : Sl) (w : World) =>
                                                some
                                                      (SV.box b 45
                                                        (SV.struct
                                                          [SV.int IntKind.i64 t_0, SV.int IntKind.i64 t_1, SV.int IntKind.i64 t_2, SV.int IntKind.i64 t_3, SV.int IntKind.i64 t_4,
                                                            SV.int IntKind.i64 t_5, SV.int IntKind.i64 t_6, SV.slice t_7, SV.slice t_8])) =
                                                    some
                                                      (SV.box b 45
                                                        (SV.struct
                                                          [SV.int IntKind.i64 t_0, SV.int IntKind.i64 t_1, SV.int IntKind.i64 t_2, SV.int IntKind.i64 t_3, SV.int IntKind.i64 t_4,
                                                            SV.int IntKind.i64 t_5, SV.int IntKind.i64 t_6, SV.slice t_7, SV.slice t_8])) ∧
                                                  some
                                                        (SV.box b_1 45
                                                          (SV.struct
                                                            [SV.int IntKind.i64 0, SV.int IntKind.i64 0, SV.int IntKind.i64 0, SV.int IntKind.i64 0, SV.int IntKind.i64 0,
                                                              SV.int IntKind.i64 0, SV.int IntKind.i64 0, SV.slice { ptr := none, len := 0, cap := 0 },
                                                              SV.slice { ptr := none, len := 0, cap := 0 }])) =
                                                      some
                                                        (SV.box b_1 45
                                                          (SV.struct
                                                            [SV.int IntKind.i64 0, SV.int IntKind.i64 0, SV.int IntKind.i64 0, SV.int IntKind.i64 0, SV.int IntKind.i64 0,
                                                              SV.int IntKind.i64 0, SV.int IntKind.i64 0, SV.slice { ptr := none, len := 0, cap := 0 },
                                                              SV.slice { ptr := none, len := 0, cap := 0 }])) ∧
                                                    I r (wr IntKind.i64 (n + 1)) w ∧ M r (wr IntKind.i64 (n + 1)) w < M s n w1) →
                                        J n_2 s_2 w1_2) →
                                    ∀ (w1 : World),
                                      Upd [b_2] [] w w1 →
                                        Ret Tryd.prog 79 [SV.struct [SV.int IntKind.i64 n_1, SV.slice r]] w1 fun (r_1 : SV) (w1_2 : World) =>
                                          ∃ (n : Int),
                                            ∃ (b_3 : Bool),
                                              r_1 = SV.tuple [SV.int IntKind.i64 n, SV.bool b_3] ∧
                                                Keeps [b, b_1, b_2] w1 w1_2 ∧
                                                  Br b_3
                                                    (Br (decide (n > imax most 0))
                                                      (Br (iand IntKind.i64 t_4 2 != 0)
                                                        (∀ (b_4 : Nat) (w1 : World),
                                                          Upd [] [b_4] w1_2 w1 →
                                                            (World.heap w1)[b_4]? =
                                                                some
                                                                  (Obj.cells
                                                                    {
                                                                      toList :=
                                                                        SV.cells
                                                                          (SV.struct
                                                                            [SV.int IntKind.u8 (wr IntKind.u8 (gshr IntKind.i64 (imax most 0) 8)),
                                                                              SV.int IntKind.u8 (wr IntKind.u8 (imax most 0))]) }
                                                                    5) →
                                                              ∀ (w1_3 : World),
                                                                Upd [b_2] [] w1 w1_3 →
                                                                  some
                                                                        (SV.box b 45
                                                                          (SV.struct
                                                                            [SV.int IntKind.i64 t_0, SV.int IntKind.i64 t_1, SV.int IntKind.i64 t_2, SV.int IntKind.i64 t_3,
                                                                              SV.int IntKind.i64 t_4, SV.int IntKind.i64 t_5, SV.int IntKind.i64 t_6, SV.slice t_7, SV.slice t_8])) =
                                                                      some
                                                                        (SV.box b 45
                                                                          (SV.struct
                                                                            [SV.int IntKind.i64 t_0, SV.int IntKind.i64 t_1, SV.int IntKind.i64 t_2, SV.int IntKind.i64 t_3,
                                                                              SV.int IntKind.i64 t_4, SV.int IntKind.i64 t_5, SV.int IntKind.i64 t_6, SV.slice t_7, SV.slice t_8])) ∧
                                                                    some
                                                                          (SV.box b_1 45
                                                                            (SV.struct
                                                                              [SV.int IntKind.i64 0, SV.int IntKind.i64 0, SV.int IntKind.i64 0, SV.int IntKind.i64 0,
                                                                                SV.int IntKind.i64 0, SV.int IntKind.i64 0, SV.int IntKind.i64 0,
                                                                                SV.slice { ptr := none, len := 0, cap := 0 }, SV.slice { ptr := none, len := 0, cap := 0 }])) =
                                                                        some
                                                                          (SV.box b_1 45
                                                                            (SV.struct
                                                                              [SV.int IntKind.i64 0, SV.int IntKind.i64 0, SV.int IntKind.i64 0, SV.int IntKind.i64 0,
                                                                                SV.int IntKind.i64 0, SV.int IntKind.i64 0, SV.int IntKind.i64 0,
                                                                                SV.slice { ptr := none, len := 0, cap := 0 }, SV.slice { ptr := none, len := 0, cap := 0 }])) ∧
                                                                      (b_2, 60) = (b_2, 60) ∧ J n_1 { ptr := some { block := b_4, off := 0 }, len := 2, cap := 2 } w1_3)
                                                        (some
                                                              (SV.box b 45
                                                                (SV.struct
                                                                  [SV.int IntKind.i64 t_0, SV.int IntKind.i64 t_1, SV.int IntKind.i64 t_2, SV.int IntKind.i64 t_3,
                                                                    SV.int IntKind.i64 t_4, SV.int IntKind.i64 t_5, SV.int IntKind.i64 t_6, SV.slice t_7, SV.slice t_8])) =
                                                            some
                                                              (SV.box b 45
                                                                (SV.struct
                                                                  [SV.int IntKind.i64 t_0, SV.int IntKind.i64 t_1, SV.int IntKind.i64 t_2, SV.int IntKind.i64 t_3,
                                                                    SV.int IntKind.i64 t_4, SV.int IntKind.i64 t_5, SV.int IntKind.i64 t_6, SV.slice t_7, SV.slice t_8])) ∧
                                                          some
                                                                (SV.box b_1 45
                                                                  (SV.struct
                                                                    [SV.int IntKind.i64 0, SV.int IntKind.i64 0, SV.int IntKind.i64 0, SV.int IntKind.i64 0, SV.int IntKind.i64 0,
                                                                      SV.int IntKind.i64 0, SV.int IntKind.i64 0, SV.slice { ptr := none, len := 0, cap := 0 },
                                                                      SV.slice { ptr := none, len := 0, cap := 0 }])) =
                                                              some
                                                                (SV.box b_1 45
                                                                  (SV.struct
                                                                    [SV.int IntKind.i64 0, SV.int IntKind.i64 0, SV.int IntKind.i64 0, SV.int IntKind.i64 0, SV.int IntKind.i64 0,
                                                                      SV.int IntKind.i64 0, SV.int IntKind.i64 0, SV.slice { ptr := none, len := 0, cap := 0 },
                                                                      SV.slice { ptr := none, len := 0, cap := 0 }])) ∧
                                                            (b_2, 60) = (b_2, 60) ∧ J n_1 r w1_2))
                                                      (some
                                                            (SV.box b 45
                                                              (SV.struct
                                                                [SV.int IntKind.i64 t_0, SV.int IntKind.i64 t_1, SV.int IntKind.i64 t_2, SV.int IntKind.i64 t_3,
                                                                  SV.int IntKind.i64 t_4, SV.int IntKind.i64 t_5, SV.int IntKind.i64 t_6, SV.slice t_7, SV.slice t_8])) =
                                                          some
                                                            (SV.box b 45
                                                              (SV.struct
                                                                [SV.int IntKind.i64 t_0, SV.int IntKind.i64 t_1, SV.int IntKind.i64 t_2, SV.int IntKind.i64 t_3,
                                                                  SV.int IntKind.i64 t_4, SV.int IntKind.i64 t_5, SV.int IntKind.i64 t_6, SV.slice t_7, SV.slice t_8])) ∧
                                                        some
                                                              (SV.box b_1 45
                                                                (SV.struct
                                                                  [SV.int IntKind.i64 0, SV.int IntKind.i64 0, SV.int IntKind.i64 0, SV.int IntKind.i64 0, SV.int IntKind.i64 0,
                                                                    SV.int IntKind.i64 0, SV.int IntKind.i64 0, SV.slice { ptr := none, len := 0, cap := 0 },
                                                                    SV.slice { ptr := none, len := 0, cap := 0 }])) =
                                                            some
                                                              (SV.box b_1 45
                                                                (SV.struct
                                                                  [SV.int IntKind.i64 0, SV.int IntKind.i64 0, SV.int IntKind.i64 0, SV.int IntKind.i64 0, SV.int IntKind.i64 0,
                                                                    SV.int IntKind.i64 0, SV.int IntKind.i64 0, SV.slice { ptr := none, len := 0, cap := 0 },
                                                                    SV.slice { ptr := none, len := 0, cap := 0 }])) ∧
                                                          (b_2, 60) = (b_2, 60) ∧ J n_1 r w1_2))
                                                    (some
                                                          (SV.box b 45
                                                            (SV.struct
                                                              [SV.int IntKind.i64 t_0, SV.int IntKind.i64 t_1, SV.int IntKind.i64 t_2, SV.int IntKind.i64 t_3, SV.int IntKind.i64 t_4,
                                                                SV.int IntKind.i64 t_5, SV.int IntKind.i64 t_6, SV.slice t_7, SV.slice t_8])) =
                                                        some
                                                          (SV.box b 45
                                                            (SV.struct
                                                              [SV.int IntKind.i64 t_0, SV.int IntKind.i64 t_1, SV.int IntKind.i64 t_2, SV.int IntKind.i64 t_3, SV.int IntKind.i64 t_4,
                                                                SV.int IntKind.i64 t_5, SV.int IntKind.i64 t_6, SV.slice t_7, SV.slice t_8])) ∧
                                                      some
                                                            (SV.box b_1 45
                                                              (SV.struct
                                                                [SV.int IntKind.i64 0, SV.int IntKind.i64 0, SV.int IntKind.i64 0, SV.int IntKind.i64 0, SV.int IntKind.i64 0,
                                                                  SV.int IntKind.i64 0, SV.int IntKind.i64 0, SV.slice { ptr := none, len := 0, cap := 0 },
                                                                  SV.slice { ptr := none, len := 0, cap := 0 }])) =
                                                          some
                                                            (SV.box b_1 45
                                                              (SV.struct
                                                                [SV.int IntKind.i64 0, SV.int IntKind.i64 0, SV.int IntKind.i64 0, SV.int IntKind.i64 0, SV.int IntKind.i64 0,
                                                                  SV.int IntKind.i64 0, SV.int IntKind.i64 0, SV.slice { ptr := none, len := 0, cap := 0 },
                                                                  SV.slice { ptr := none, len := 0, cap := 0 }])) ∧
                                                        (b_2, 60) = (b_2, 60) ∧ J n_1 r w1_2)))
                (∀ (w1_1 : World),
                  Upd [b_1, b] [] w1 w1_1 →
                    R
                      (SV.struct
                        [SV.int IntKind.i64 t_0, SV.int IntKind.i64 t_1, SV.int IntKind.i64 t_2, SV.int IntKind.i64 t_3, SV.int IntKind.i64 t_4, SV.int IntKind.i64 t_5,
                          SV.int IntKind.i64 t_6, SV.slice s, SV.slice t_8])
                      w1_1)
theorem f35_of (t_0 : Int) (t_1 : Int) (t_2 : Int) (t_3 : Int) (t_4 : Int) (t_5 : Int) (t_6 : Int) (t_7 : Sl) (t_8 : Sl) (most : Int) (w : World) (R : SV → World → Prop) (h : vc35 t_0 t_1 t_2 t_3 t_4 t_5 t_6 t_7 t_8 most w R) : Ret Tryd.prog 35 [.struct [.int .i64 t_0, .int .i64 t_1, .int .i64 t_2, .int .i64 t_3, .int .i64 t_4, .int .i64 t_5, .int .i64 t_6, .slice t_7, .slice t_8], .int .i64 most] w R :=
  have e : vc35 t_0 t_1 t_2 t_3 t_4 t_5 t_6 t_7 t_8 most w R = fnVC X Tryd.f35 a35 [.struct [.int .i64 t_0, .int .i64 t_1, .int .i64 t_2, .int .i64 t_3, .int .i64 t_4, .int .i64 t_5, .int .i64 t_6, .slice t_7, .slice t_8], .int .i64 most] w R := by kernel_rfl
  fnVC_sound X_ok (n := a35) (e ▸ h) (by kernel_rfl) (by kernel_rfl) rfl rfl

def vc57 (t_0 : Int) (t_1 : Int) (t_2 : Int) (t_3 : Int) (t_4 : Int) (t_5 : Int) (t_6 : Int) (t_7 : Sl) (t_8 : Sl) (most : Int) (w : World) (R : SV → World → Prop) : Prop :=
  ∀ (b b_1 : Nat) (w1 : World),
    Upd [] [b_1, b] w w1 →
      Ret Tryd.prog 38
        [SV.struct
            [SV.int IntKind.i64 t_0, SV.int IntKind.i64 t_1, SV.int IntKind.i64 t_2, SV.int IntKind.i64 t_3, SV.int IntKind.i64 t_4, SV.int IntKind.i64 t_5, SV.int IntKind.i64 t_6,
              SV.slice t_7, SV.slice t_8]]
        w1 fun (r : SV) (w1_1 : World) =>
        ∃ (n : Int),
          ∃ (n_1 : Int),
            ∃ (n_2 : Int),
              ∃ (n_3 : Int),
                ∃ (n_4 : Int),
                  ∃ (n_5 : Int),
                    ∃ (n_6 : Int),
                      ∃ (s : Sl),
                        ∃ (s_1 : Sl),
                          r =
                              SV.struct
                                [SV.int IntKind.i64 n, SV.int IntKind.i64 n_1, SV.int IntKind.i64 n_2, SV.int IntKind.i64 n_3, SV.int IntKind.i64 n_4, SV.int IntKind.i64 n_5,
                                  SV.int IntKind.i64 n_6, SV.slice s, SV.slice s_1] ∧
                            Keeps [b, b_1] w1 w1_1 ∧
                              ∀ (b_2 : Nat) (J : Int → World → Prop),
                                (∀ (n_7 : Int) (w1 : World),
                                    (∃ (I : Int → World → Prop),
                                        ∃ (M : Int → World → Nat),
                                          I 0 w1 ∧
                                            ∀ (n_8 : Int) (w1 : World),
                                              I n_8 w1 →
                                                Br (decide (n_8 < (↑s.2 : Int)))
                                                  (∀ (J : World → Prop),
                                                    (∀ (w1_2 : World),
                                                        some
                                                                (SV.box b 45
                                                                  (SV.struct
                                                                    [SV.int IntKind.i64 t_0, SV.int IntKind.i64 t_1, SV.int IntKind.i64 t_2, SV.int IntKind.i64 t_3,
                                                                      SV.int IntKind.i64 t_4, SV.int IntKind.i64 t_5, SV.int IntKind.i64 t_6, SV.slice t_7, SV.slice t_8])) =
                                                              some
                                                                (SV.box b 45
                                                                  (SV.struct
                                                                    [SV.int IntKind.i64 t_0, SV.int IntKind.i64 t_1, SV.int IntKind.i64 t_2, SV.int IntKind.i64 t_3,
                                                                      SV.int IntKind.i64 t_4, SV.int IntKind.i64 t_5, SV.int IntKind.i64 t_6, SV.slice t_7, SV.slice t_8])) ∧
                                                            some
                                                                  (SV.box b_1 45
                                                                    (SV.struct
                                                                      [SV.int IntKind.i64 0, SV.int IntKind.i64 0, SV.int IntKind.i64 0, SV.int IntKind.i64 0, SV.int IntKind.i64 0,
                                                                        SV.int IntKind.i64 0, SV.int IntKind.i64 0, SV.slice { ptr := none, len := 0, cap := 0 },
                                                                        SV.slice { ptr := none, len := 0, cap := 0 }])) =
                                                                some
                                                                  (SV.box b_1 45
                                                                    (SV.struct
                                                                      [SV.int IntKind.i64 0, SV.int IntKind.i64 0, SV.int IntKind.i64 0, SV.int IntKind.i64 0, SV.int IntKind.i64 0,
                                                                        SV.int IntKind.i64 0, SV.int IntKind.i64 0, SV.slice { ptr := none, len := 0, cap := 0 },
                                                                        SV.slice { ptr := none, len := 0, cap := 0 }])) ∧
                                                              some
                                                                    (SV.box b_2 45
                                                                      (SV.struct
                                                                        [SV.int IntKind.i64 n, SV.int IntKind.i64 n_1, SV.int IntKind.i64 n_2, SV.int IntKind.i64 n_3,
                                                                          SV.int IntKind.i64 n_4, SV.int IntKind.i64 n_5, SV.int IntKind.i64 n_6, SV.slice s, SV.slice s_1])) =
                                                                  some
                                                                    (SV.box b_2 45
                                                                      (SV.struct
                                                                        [SV.int IntKind.i64 n, SV.int IntKind.i64 n_1, SV.int IntKind.i64 n_2, SV.int IntKind.i64 n_3,
                                                                          SV.int IntKind.i64 n_4, SV.int IntKind.i64 n_5, SV.int IntKind.i64 n_6, SV.slice s, SV.slice s_1])) ∧
                                                                I (wr IntKind.i64 (n_8 + 1)) w1_2 ∧ M (wr IntKind.i64 (n_8 + 1)) w1_2 < M n_8 w1 →
                                                          J w1_2) →
                                                      Need (decide (0 ≤ n_8) && decide (n_8 < (↑s.2 : Int)) && Option.isSome s.1)
                                                        (∃ (n_9 : Int),
                                                          World.cell? w1 (Sl.at s 2 (Int.toNat n_8)) = some (Value.int IntKind.i64 n_9) ∧
                                                            ∃ (s_2 : Sl),
                                                              World.cell? w1 (Addr.add (Sl.at s 2 (Int.toNat n_8)) 1) = some (Sl.val s_2) ∧
                                                                Ret Tryd.prog 92 [SV.struct [SV.int IntKind.i64 n_9, SV.slice s_2]] w1 fun (r : SV) (w1_2 : World) =>
                                                                  ∃ (b_3 : Bool),
                                                                    r = SV.bool b_3 ∧
                                                                      Keeps [b, b_1, b_2] w1 w1_2 ∧
                                                                        ∀ (J_1 : Bool → World → Prop),
                                                                          (∀ (b_4 : Bool) (w1 : World),
                                                                              Br b_4
                                                                                  (Need (decide (0 ≤ n_8) && decide (n_8 < (↑s.2 : Int)) && Option.isSome s.1)
                                                                                    (∃ (s_3 : Sl),
                                                                                      World.cell? w1 (Addr.add (Sl.at s 2 (Int.toNat n_8)) 1) = some (Sl.val s_3) ∧
                                                                                        Need (decide (0 < (↑s_3.2 : Int)) && Option.isSome s_3.1)
                                                                                          (Store w1 (Sl.at s_3 1 0)
                                                                                            (SV.cells (SV.int IntKind.u8 (wr IntKind.u8 (wr IntKind.i64 (Int.tdiv n_7 256)))))
                                                                                            [b, b_1, b_2] fun (w1 : World) =>
                                                                                            Need (decide (0 ≤ n_8) && decide (n_8 < (↑s.2 : Int)) && Option.isSome s.1)
                                                                                              (∃ (s_4 : Sl),
                                                                                                World.cell? w1 (Addr.add (Sl.at s 2 (Int.toNat n_8)) 1) = some (Sl.val s_4) ∧
                                                                                                  Need (decide (1 < (↑s_4.2 : Int)) && Option.isSome s_4.1)
                                                                                                    (Store w1 (Sl.at s_4 1 1)
                                                                                                      (SV.cells (SV.int IntKind.u8 (wr IntKind.u8 (Int.tmod n_7 256)))) [b, b_1, b_2]
                                                                                                      fun (w1 : World) =>
                                                                                                      some
                                                                                                            (SV.box b 45
                                                                                                              (SV.struct
                                                                                                                [SV.int IntKind.i64 t_0, SV.int IntKind.i64 t_1,
                                                                                                                  SV.int IntKind.i64 t_2, SV.int IntKind.i64 t_3,
                                                                                                                  SV.int IntKind.i64 t_4, SV.int IntKind.i64 t_5,
                                                                                                                  SV.int IntKind.i64 t_6, SV.slice t_7, SV.slice t_8])) =
                                                                                                          some
                                                                                                            (SV.box b 45
                                                                                                              (SV.struct
                                                                                                                [SV.int IntKind.i64 t_0, SV.int IntKind.i64 t_1,
                                                                                                                  SV.int IntKind.i64 t_2, SV.int IntKind.i64 t_3,
                                                                                                                  SV.int IntKind.i64 t_4, SV.int IntKind.i64 t_5,
                                                                                                                  SV.int IntKind.i64 t_6, SV.slice t_7, SV.slice t_8])) ∧
                                                                                                        some
                                                                                                              (SV.box b_1 45
                                                                                                                (SV.struct
                                                                                                                  [SV.int IntKind.i64 0, SV.int IntKind.i64 0, SV.int IntKind.i64 0,
                                                                                                                    SV.int IntKind.i64 0, SV.int IntKind.i64 0, SV.int IntKind.i64 0,
                                                                                                                    SV.int IntKind.i64 0,
                                                                                                                    SV.slice { ptr := none, len := 0, cap := 0 },
                                                                                                                    SV.slice { ptr := none, len := 0, cap := 0 }])) =
                                                                                                            some
                                                                                                              (SV.box b_1 45
                                                                                                                (SV.struct
                                                                                                                  [SV.int IntKind.i64 0, SV.int IntKind.i64 0, SV.int IntKind.i64 0,
                                                                                                                    SV.int IntKind.i64 0, SV.int IntKind.i64 0, SV.int IntKind.i64 0,
                                                                                                                    SV.int IntKind.i64 0,
                                                                                                                    SV.slice { ptr := none, len := 0, cap := 0 },
                                                                                                                    SV.slice { ptr := none, len := 0, cap := 0 }])) ∧
                                                                                                          some
                                                                                                                (SV.box b_2 45
                                                                                                                  (SV.struct
                                                                                                                    [SV.int IntKind.i64 n, SV.int IntKind.i64 n_1,
                                                                                                                      SV.int IntKind.i64 n_2, SV.int IntKind.i64 n_3,
                                                                                                                      SV.int IntKind.i64 n_4, SV.int IntKind.i64 n_5,
                                                                                                                      SV.int IntKind.i64 n_6, SV.slice s, SV.slice s_1])) =
                                                                                                              some
                                                                                                                (SV.box b_2 45
                                                                                                                  (SV.struct
                                                                                                                    [SV.int IntKind.i64 n, SV.int IntKind.i64 n_1,
                                                                                                                      SV.int IntKind.i64 n_2, SV.int IntKind.i64 n_3,
                                                                                                                      SV.int IntKind.i64 n_4, SV.int IntKind.i64 n_5,
                                                                                                                      SV.int IntKind.i64 n_6, SV.slice s, SV.slice s_1])) ∧
                                                                                                            J w1)))))
                                                                                  (some
                                                                                        (SV.box b 45
                                                                                          (SV.struct
                                                                                            [SV.int IntKind.i64 t_0, SV.int IntKind.i64 t_1, SV.int IntKind.i64 t_2,
                                                                                              SV.int IntKind.i64 t_3, SV.int IntKind.i64 t_4, SV.int IntKind.i64 t_5,
                                                                                              SV.int IntKind.i64 t_6, SV.slice t_7, SV.slice t_8])) =
                                                                                      some
                                                                                        (SV.box b 45
                                                                                          (SV.struct
                                                                                            [SV.int IntKind.i64 t_0, SV.int IntKind.i64 t_1, SV.int IntKind.i64 t_2,
                                                                                              SV.int IntKind.i64 t_3, SV.int IntKind.i64 t_4, SV.int IntKind.i64 t_5,
                                                                                              SV.int IntKind.i64 t_6, SV.slice t_7, SV.slice t_8])) ∧
                                                                                    some
                                                                                          (SV.box b_1 45
                                                                                            (SV.struct
                                                                                              [SV.int IntKind.i64 0, SV.int IntKind.i64 0, SV.int IntKind.i64 0, SV.int IntKind.i64 0,
                                                                                                SV.int IntKind.i64 0, SV.int IntKind.i64 0, SV.int IntKind.i64 0,
                                                                                                SV.slice { ptr := none, len := 0, cap := 0 },
                                                                                                SV.slice { ptr := none, len := 0, cap := 0 }])) =
                                                                                        some
                                                                                          (SV.box b_1 45
                                                                                            (SV.struct
                                                                                              [SV.int IntKind.i64 0, SV.int IntKind.i64 0, SV.int IntKind.i64 0, SV.int IntKind.i64 0,
                                                                                                SV.int IntKind.i64 0, SV.int IntKind.i64 0, SV.int IntKind.i64 0,
                                                                                                SV.slice { ptr := none, len := 0, cap := 0 },
                                                                                                SV.slice { ptr := none, len := 0, cap := 0 }])) ∧
                                                                                      some
                                                                                            (SV.box b_2 45
                                                                                              (SV.struct
                                                                                                [SV.int IntKind.i64 n, SV.int IntKind.i64 n_1, SV.int IntKind.i64 n_2,
                                                                                                  SV.int IntKind.i64 n_3, SV.int IntKind.i64 n_4, SV.int IntKind.i64 n_5,
                                                                                                  SV.int IntKind.i64 n_6, SV.slice s, SV.slice s_1])) =
                                                                                          some
                                                                                            (SV.box b_2 45
                                                                                              (SV.struct
                                                                                                [SV.int IntKind.i64 n, SV.int IntKind.i64 n_1, SV.int IntKind.i64 n_2,
                                                                                                  SV.int IntKind.i64 n_3, SV.int IntKind.i64 n_4, SV.int IntKind.i64 n_5,
                                                                                                  SV.int IntKind.i64 n_6, SV.slice s, SV.slice s_1])) ∧
                                                                                        J w1) →
                                                                                J_1 b_4 w1) →
                                                                            Br b_3
                                                                              (Br (iand IntKind.i64 t_4 2 != 0)
                                                                                (Need (decide (0 ≤ n_8) && decide (n_8 < (↑s.2 : Int)) && Option.isSome s.1)
                                                                                  (∃ (s_3 : Sl),
                                                                                    World.cell? w1_2 (Addr.add (Sl.at s 2 (Int.toNat n_8)) 1) = some (Sl.val s_3) ∧
                                                                                      Ret Tryd.prog 84 [SV.slice s_3, SV.int IntKind.i64 0, SV.int IntKind.i64 2] w1_2
                                                                                        fun (r : SV) (w1 : World) =>
                                                                                        ∃ (n_10 : Int),
                                                                                          r = SV.int IntKind.i64 n_10 ∧
                                                                                            Keeps [b, b_1, b_2] w1_2 w1 ∧
                                                                                              some
                                                                                                    (SV.box b 45
                                                                                                      (SV.struct
                                                                                                        [SV.int IntKind.i64 t_0, SV.int IntKind.i64 t_1, SV.int IntKind.i64 t_2,
                                                                                                          SV.int IntKind.i64 t_3, SV.int IntKind.i64 t_4, SV.int IntKind.i64 t_5,
                                                                                                          SV.int IntKind.i64 t_6, SV.slice t_7, SV.slice t_8])) =
                                                                                                  some
                                                                                                    (SV.box b 45
                                                                                                      (SV.struct
                                                                                                        [SV.int IntKind.i64 t_0, SV.int IntKind.i64 t_1, SV.int IntKind.i64 t_2,
                                                                                                          SV.int IntKind.i64 t_3, SV.int IntKind.i64 t_4, SV.int IntKind.i64 t_5,
                                                                                                          SV.int IntKind.i64 t_6, SV.slice t_7, SV.slice t_8])) ∧
                                                                                                some
                                                                                                      (SV.box b_1 45
                                                                                                        (SV.struct
                                                                                                          [SV.int IntKind.i64 0, SV.int IntKind.i64 0, SV.int IntKind.i64 0,
                                                                                                            SV.int IntKind.i64 0, SV.int IntKind.i64 0, SV.int IntKind.i64 0,
                                                                                                            SV.int IntKind.i64 0, SV.slice { ptr := none, len := 0, cap := 0 },
                                                                                                            SV.slice { ptr := none, len := 0, cap := 0 }])) =
                                                                                                    some
                                                                                                      (SV.box b_1 45
                                                                                                        (SV.struct
                                                                                                          [SV.int IntKind.i64 0, SV.int IntKind.i64 0, SV.int IntKind.i64 0,
                                                                                                            SV.int IntKind.i64 0, SV.int IntKind.i64 0, SV.int IntKind.i64 0,
                                                                                                            SV.int IntKind.i64 0, SV.slice { ptr := none, len := 0, cap := 0 },
                                                                                                            SV.slice { ptr := none, len := 0, cap := 0 }])) ∧
                                                                                                  some
                                                                                                        (SV.box b_2 45
                                                                                                          (SV.struct
                                                                                                            [SV.int IntKind.i64 n, SV.int IntKind.i64 n_1, SV.int IntKind.i64 n_2,
                                                                                                              SV.int IntKind.i64 n_3, SV.int IntKind.i64 n_4, SV.int IntKind.i64 n_5,
                                                                                                              SV.int IntKind.i64 n_6, SV.slice s, SV.slice s_1])) =
                                                                                                      some
                                                                                                        (SV.box b_2 45
                                                                                                          (SV.struct
                                                                                                            [SV.int IntKind.i64 n, SV.int IntKind.i64 n_1, SV.int IntKind.i64 n_2,
                                                                                                              SV.int IntKind.i64 n_3, SV.int IntKind.i64 n_4, SV.int IntKind.i64 n_5,
                                                                                                              SV.int IntKind.i64 n_6, SV.slice s, SV.slice s_1])) ∧
                                                                                                    J_1 (decide (n_10 > n_7)) w1))
                                                                                (some
                                                                                      (SV.box b 45
                                                                                        (SV.struct
                                                                                          [SV.int IntKind.i64 t_0, SV.int IntKind.i64 t_1, SV.int IntKind.i64 t_2,
                                                                                            SV.int IntKind.i64 t_3, SV.int IntKind.i64 t_4, SV.int IntKind.i64 t_5,
                                                                                            SV.int IntKind.i64 t_6, SV.slice t_7, SV.slice t_8])) =
                                                                                    some
                                                                                      (SV.box b 45
                                                                                        (SV.struct
                                                                                          [SV.int IntKind.i64 t_0, SV.int IntKind.i64 t_1, SV.int IntKind.i64 t_2,
                                                                                            SV.int IntKind.i64 t_3, SV.int IntKind.i64 t_4, SV.int IntKind.i64 t_5,
                                                                                            SV.int IntKind.i64 t_6, SV.slice t_7, SV.slice t_8])) ∧
                                                                                  some
                                                                                        (SV.box b_1 45
                                                                                          (SV.struct
                                                                                            [SV.int IntKind.i64 0, SV.int IntKind.i64 0, SV.int IntKind.i64 0, SV.int IntKind.i64 0,
                                                                                              SV.int IntKind.i64 0, SV.int IntKind.i64 0, SV.int IntKind.i64 0,
                                                                                              SV.slice { ptr := none, len := 0, cap := 0 },
                                                                                              SV.slice { ptr := none, len := 0, cap := 0 }])) =
                                                                                      some
                                                                                        (SV.box b_1 45
                                                                                          (SV.struct
                                                                                            [SV.int IntKind.i64 0, SV.int IntKind.i64 0, SV.int IntKind.i64 0, SV.int IntKind.i64 0,
                                                                                              SV.int IntKind.i64 0, SV.int IntKind.i64 0, SV.int IntKind.i64 0,
                                                                                              SV.slice { ptr := none, len := 0, cap := 0 },
                                                                                              SV.slice { ptr := none, len := 0, cap := 0 }])) ∧
                                                                                    some
                                                                                          (SV.box b_2 45
                                                                                            (SV.struct
                                                                                              [SV.int IntKind.i64 n, SV.int IntKind.i64 n_1, SV.int IntKind.i64 n_2,
                                                                                                SV.int IntKind.i64 n_3, SV.int IntKind.i64 n_4, SV.int IntKind.i64 n_5,
                                                                                                SV.int IntKind.i64 n_6, SV.slice s, SV.slice s_1])) =
                                                                                        some
                                                                                          (SV.box b_2 45
                                                                                            (SV.struct
                                                                                              [SV.int IntKind.i64 n, SV.int IntKind.i64 n_1, SV.int IntKind.i64 n_2,
                                                                                                SV.int IntKind.i64 n_3, SV.int IntKind.i64 n_4, SV.int IntKind.i64 n_5,
                                                                                                SV.int IntKind.i64 n_6, SV.slice s, SV.slice s_1])) ∧
                                                                                      J_1 false w1_2))
                                                                              (some
                                                                                    (SV.box b 45
                                                                                      (SV.struct
                                                                                        [SV.int IntKind.i64 t_0, SV.int IntKind.i64 t_1, SV.int IntKind.i64 t_2,
                                                                                          SV.int IntKind.i64 t_3, SV.int IntKind.i64 t_4, SV.int IntKind.i64 t_5,
                                                                                          SV.int IntKind.i64 t_6, SV.slice t_7, SV.slice t_8])) =
                                                                                  some
                                                                                    (SV.box b 45
                                                                                      (SV.struct
                                                                                        [SV.int IntKind.i64 t_0, SV.int IntKind.i64 t_1, SV.int IntKind.i64 t_2,
                                                                                          SV.int IntKind.i64 t_3, SV.int IntKind.i64 t_4, SV.int IntKind.i64 t_5,
                                                                                          SV.int IntKind.i64 t_6, SV.slice t_7, SV.slice t_8])) ∧
                                                                                some
                                                                                      (SV.box b_1 45
                                                                                        (SV.struct
                                                                                          [SV.int IntKind.i64 0, SV.int IntKind.i64 0, SV.int IntKind.i64 0, SV.int IntKind.i64 0,
                                                                                            SV.int IntKind.i64 0, SV.int IntKind.i64 0, SV.int IntKind.i64 0,
                                                                                            SV.slice { ptr := none, len := 0, cap := 0 },
                                                                                            SV.slice { ptr := none, len := 0, cap := 0 }])) =
                                                                                    some
                                                                                      (SV.box b_1 45
                                                                                        (SV.struct
                                                                                          [SV.int IntKind.i64 0, SV.int IntKind.i64 0, SV.int IntKind.i64 0, SV.int IntKind.i64 0,
                                                                                            SV.int IntKind.i64 0, SV.int IntKind.i64 0, SV.int IntKind.i64 0,
                                                                                            SV.slice { ptr := none, len := 0, cap := 0 },
                                                                                            SV.slice { ptr := none, len := 0, cap := 0 }])) ∧
                                                                                  some
                                                                                        (SV.box b_2 45
                                                                                          (SV.struct
                                                                                            [SV.int IntKind.i64 n, SV.int IntKind.i64 n_1, SV.int IntKind.i64 n_2,
                                                                                              SV.int IntKind.i64 n_3, SV.int IntKind.i64 n_4, SV.int IntKind.i64 n_5,
                                                                                              SV.int IntKind.i64 n_6, SV.slice s, SV.slice s_1])) =
                                                                                      some
                                                                                        (SV.box b_2 45
                                                                                          (SV.struct
                                                                                            [SV.int IntKind.i64 n, SV.int IntKind.i64 n_1, SV.int IntKind.i64 n_2,
                                                                                              SV.int IntKind.i64 n_3, SV.int IntKind.i64 n_4, SV.int IntKind.i64 n_5,
                                                                                              SV.int IntKind.i64 n_6, SV.slice s, SV.slice s_1])) ∧
                                                                                    J_1 false w1_2)))
                                                  (∀ (w1_2 : World),
                                                    Upd [b_1] [] w1 w1_2 →
                                                      R
                                                        (SV.struct
                                                          [SV.int IntKind.i64 n, SV.int IntKind.i64 n_1, SV.int IntKind.i64 n_2, SV.int IntKind.i64 n_3, SV.int IntKind.i64 n_4,
                                                            SV.int IntKind.i64 n_5, SV.int IntKind.i64 n_6, SV.slice s, SV.slice s_1])
                                                        w1_2)) →
                                      J n_7 w1) →
                                  Br (decide (most < 0))
                                    (∀ (w1 : World),
                                      Upd [] [b_2] w1_1 w1 →
                                        some
                                              (SV.box b 45
                                                (SV.struct
                                                  [SV.int IntKind.i64 t_0, SV.int IntKind.i64 t_1, SV.int IntKind.i64 t_2, SV.int IntKind.i64 t_3, SV.int IntKind.i64 t_4,
                                                    SV.int IntKind.i64 t_5, SV.int IntKind.i64 t_6, SV.slice t_7, SV.slice t_8])) =
                                            some
                                              (SV.box b 45
                                                (SV.struct
                                                  [SV.int IntKind.i64 t_0, SV.int IntKind.i64 t_1, SV.int IntKind.i64 t_2, SV.int IntKind.i64 t_3, SV.int IntKind.i64 t_4,
                                                    SV.int IntKind.i64 t_5, SV.int IntKind.i64 t_6, SV.slice t_7, SV.slice t_8])) ∧
                                          some
                                                (SV.box b_1 45
                                                  (SV.struct
                                                    [SV.int IntKind.i64 0, SV.int IntKind.i64 0, SV.int IntKind.i64 0, SV.int IntKind.i64 0, SV.int IntKind.i64 0,
                                                      SV.int IntKind.i64 0, SV.int IntKind.i64 0, SV.slice { ptr := none, len := 0, cap := 0 },
                                                      SV.slice { ptr := none, len := 0, cap := 0 }])) =
                                              some
                                                (SV.box b_1 45
                                                  (SV.struct
                                                    [SV.int IntKind.i64 0, SV.int IntKind.i64 0, SV.int IntKind.i64 0, SV.int IntKind.i64 0, SV.int IntKind.i64 0,
                                                      SV.int IntKind.i64 0, SV.int IntKind.i64 0, SV.slice { ptr := none, len := 0, cap := 0 },
                                                      SV.slice { ptr := none, len := 0, cap := 0 }])) ∧
                                            some
                                                  (SV.box b_2 45
                                                    (SV.struct
                                                      [SV.int IntKind.i64 n, SV.int IntKind.i64 n_1, SV.int IntKind.i64 n_2, SV.int IntKind.i64 n_3, SV.int IntKind.i64 n_4,
                                                        SV.int IntKind.i64 n_5, SV.int IntKind.i64 n_6, SV.slice s, SV.slice s_1])) =
                                                some
                                                  (SV.box b_2 45
                                                    (SV.struct
                                                      [SV.int IntKind.i64 n, SV.int IntKind.i64 n_1, SV.int IntKind.i64 n_2, SV.int IntKind.i64 n_3, SV.int IntKind.i64 n_4,
                                                        SV.int IntKind.i64 n_5, SV.int IntKind.i64 n_6, SV.slice s, SV.slice s_1])) ∧
                                              J 0 w1)
                                    (∀ (w1 : World),
                                      Upd [] [b_2] w1_1 w1 →
                                        some
                                              (SV.box b 45
                                                (SV.struct
                                                  [SV.int IntKind.i64 t_0, SV.int IntKind.i64 t_1, SV.int IntKind.i64 t_2, SV.int IntKind.i64 t_3, SV.int IntKind.i64 t_4,
                                                    SV.int IntKind.i64 t_5, SV.int IntKind.i64 t_6, SV.slice t_7, SV.slice t_8])) =
                                            some
                                              (SV.box b 45
                                                (SV.struct
                                                  [SV.int IntKind.i64 t_0, SV.int IntKind.i64 t_1, SV.int IntKind.i64 t_2, SV.int IntKind.i64 t_3, SV.int IntKind.i64 t_4,
                                                    SV.int IntKind.i64 t_5, SV.int IntKind.i64 t_6, SV.slice t_7, SV.slice t_8])) ∧
                                          some
                                                (SV.box b_1 45
                                                  (SV.struct
                                                    [SV.int IntKind.i64 0, SV.int IntKind.i64 0, SV.int IntKind.i64 0, SV.int IntKind.i64 0, SV.int IntKind.i64 0,
                                                      SV.int IntKind.i64 0, SV.int IntKind.i64 0, SV.slice { ptr := none, len := 0, cap := 0 },
                                                      SV.slice { ptr := none, len := 0, cap := 0 }])) =
                                              some
                                                (SV.box b_1 45
                                                  (SV.struct
                                                    [SV.int IntKind.i64 0, SV.int IntKind.i64 0, SV.int IntKind.i64 0, SV.int IntKind.i64 0, SV.int IntKind.i64 0,
                                                      SV.int IntKind.i64 0, SV.int IntKind.i64 0, SV.slice { ptr := none, len := 0, cap := 0 },
                                                      SV.slice { ptr := none, len := 0, cap := 0 }])) ∧
                                            some
                                                  (SV.box b_2 45
                                                    (SV.struct
                                                      [SV.int IntKind.i64 n, SV.int IntKind.i64 n_1, SV.int IntKind.i64 n_2, SV.int IntKind.i64 n_3, SV.int IntKind.i64 n_4,
                                                        SV.int IntKind.i64 n_5, SV.int IntKind.i64 n_6, SV.slice s, SV.slice s_1])) =
                                                some
                                                  (SV.box b_2 45
                                                    (SV.struct
                                                      [SV.int IntKind.i64 n, SV.int IntKind.i64 n_1, SV.int IntKind.i64 n_2, SV.int IntKind.i64 n_3, SV.int IntKind.i64 n_4,
                                                        SV.int IntKind.i64 n_5, SV.int IntKind.i64 n_6, SV.slice s, SV.slice s_1])) ∧
                                              J most w1)
theorem f57_of (t_0 : Int) (t_1 : Int) (t_2 : Int) (t_3 : Int) (t_4 : Int) (t_5 : Int) (t_6 : Int) (t_7 : Sl) (t_8 : Sl) (most : Int) (w : World) (R : SV → World → Prop) (h : vc57 t_0 t_1 t_2 t_3 t_4 t_5 t_6 t_7 t_8 most w R) : Ret Tryd.prog 57 [.struct [.int .i64 t_0, .int .i64 t_1, .int .i64 t_2, .int .i64 t_3, .int .i64 t_4, .int .i64 t_5, .int .i64 t_6, .slice t_7, .slice t_8], .int .i64 most] w R :=
  have e : vc57 t_0 t_1 t_2 t_3 t_4 t_5 t_6 t_7 t_8 most w R = fnVC X Tryd.f57 a57 [.struct [.int .i64 t_0, .int .i64 t_1, .int .i64 t_2, .int .i64 t_3, .int .i64 t_4, .int .i64 t_5, .int .i64 t_6, .slice t_7, .slice t_8], .int .i64 most] w R := by kernel_rfl
  fnVC_sound X_ok (n := a57) (e ▸ h) (by kernel_rfl) (by kernel_rfl) rfl rfl

end Go.Vc.S9
end
