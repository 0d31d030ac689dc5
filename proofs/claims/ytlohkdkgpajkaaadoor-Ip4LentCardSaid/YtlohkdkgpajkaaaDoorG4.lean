import Derived.Test.YtlohkdkgpajkaaaDoorG2
import Derived.Test.YtlohkdkgpajkaaaDoorG3
import Derived.KernelRfl
section
open Go Go.Vc Go.Vc.S6 Go.Proofs
set_option maxRecDepth 100000
set_option linter.unusedVariables false
namespace Go.Vc.S6
def vc33 (h_0 : Int) (h_1 : Int) (h_2 : Bool) (h_3 : Bool) (h_4 : Int) (h_5 : Int) (h_6 : Int) (h_7_0 : Int) (h_7_1 : Nat → Int) (h_8_0 : Int) (h_8_1 : Nat → Int) (h_9 : Sl) (h_10 : Sl) (w : World) (R : SV → World → Prop) : Prop :=
  ∀ (b : Nat) (J : World → Prop),
    (∀ (w1 : World),
        (Ret Tryd.prog 27 [SV.slice h_9] w1 fun (r : SV) (w1_1 : World) =>
            ∃ (s : Sl),
              ∃ (n : Int),
                r = SV.tuple [SV.slice s, SV.int IntKind.i64 n] ∧
                  Keeps [b] w1 w1_1 ∧
                    Br (n != 0) (R (SV.int IntKind.i64 n) w1_1)
                      (Br (decide (wr IntKind.i64 (wr IntKind.i64 (20 + (↑s.2 : Int)) + (↑h_10.2 : Int)) > 65535)) (R (SV.int IntKind.i64 63) w1_1)
                        (Ret Tryd.prog 59 [SV.bool h_3, SV.int IntKind.i64 h_4, SV.int IntKind.i64 (↑h_10.2 : Int)] w1_1 fun (r : SV) (w1 : World) =>
                          ∃ (n : Int), r = SV.int IntKind.i64 n ∧ Keeps [b] w1_1 w1 ∧ R (SV.int IntKind.i64 n) w1))) →
          J w1) →
      ∀ (w1 : World),
        Upd [] [b] w w1 →
          Ret Tryd.prog 68 [SV.int IntKind.i64 h_0, SV.int IntKind.i64 255] w1 fun (r : SV) (w1_1 : World) =>
            ∃ (b_1 : Bool),
              r = SV.bool b_1 ∧
                Keeps [b] w1 w1_1 ∧
                  Br b_1 (R (SV.int IntKind.i64 68) w1_1)
                    (Ret Tryd.prog 68 [SV.int IntKind.i64 h_1, SV.int IntKind.i64 65535] w1_1 fun (r : SV) (w1 : World) =>
                      ∃ (b_2 : Bool),
                        r = SV.bool b_2 ∧
                          Keeps [b] w1_1 w1 ∧
                            Br b_2 (R (SV.int IntKind.i64 68) w1)
                              (Ret Tryd.prog 68 [SV.int IntKind.i64 h_4, SV.int IntKind.i64 65528] w1 fun (r : SV) (w1_2 : World) =>
                                ∃ (b_3 : Bool),
                                  r = SV.bool b_3 ∧
                                    Keeps [b] w1 w1_2 ∧
                                      Br b_3 (R (SV.int IntKind.i64 68) w1_2)
                                        (Br (Int.tmod h_4 8 != 0) (R (SV.int IntKind.i64 68) w1_2)
                                          (Ret Tryd.prog 68 [SV.int IntKind.i64 h_5, SV.int IntKind.i64 255] w1_2 fun (r : SV) (w1 : World) =>
                                            ∃ (b_4 : Bool),
                                              r = SV.bool b_4 ∧
                                                Keeps [b] w1_2 w1 ∧
                                                  Br b_4 (R (SV.int IntKind.i64 68) w1)
                                                    (Ret Tryd.prog 68 [SV.int IntKind.i64 h_6, SV.int IntKind.i64 255] w1 fun (r : SV) (w1_3 : World) =>
                                                      ∃ (b_5 : Bool),
                                                        r = SV.bool b_5 ∧
                                                          Keeps [b] w1 w1_3 ∧
                                                            Br b_5 (R (SV.int IntKind.i64 68) w1_3)
                                                              (Ret Tryd.prog 69 [SV.struct [SV.int IntKind.i64 h_7_0, SV.arr IntKind.u8 16 h_7_1]] w1_3 fun (r : SV) (w1 : World) =>
                                                                ∃ (b_6 : Bool),
                                                                  r = SV.bool b_6 ∧
                                                                    Keeps [b] w1_3 w1 ∧
                                                                      Br (!b_6) (R (SV.int IntKind.i64 68) w1)
                                                                        (Ret Tryd.prog 69 [SV.struct [SV.int IntKind.i64 h_8_0, SV.arr IntKind.u8 16 h_8_1]] w1
                                                                          fun (r : SV) (w1_4 : World) =>
                                                                          ∃ (b_7 : Bool),
                                                                            r = SV.bool b_7 ∧
                                                                              Keeps [b] w1 w1_4 ∧
                                                                                Br (!b_7) (R (SV.int IntKind.i64 68) w1_4)
                                                                                  (some
                                                                                        (SV.box b 30
                                                                                          (SV.struct
                                                                                            [SV.int IntKind.i64 h_0, SV.int IntKind.i64 h_1, SV.bool h_2, SV.bool h_3,
                                                                                              SV.int IntKind.i64 h_4, SV.int IntKind.i64 h_5, SV.int IntKind.i64 h_6,
                                                                                              SV.struct [SV.int IntKind.i64 h_7_0, SV.arr IntKind.u8 16 h_7_1],
                                                                                              SV.struct [SV.int IntKind.i64 h_8_0, SV.arr IntKind.u8 16 h_8_1], SV.slice h_9,
                                                                                              SV.slice h_10])) =
                                                                                      some
                                                                                        (SV.box b 30
                                                                                          (SV.struct
                                                                                            [SV.int IntKind.i64 h_0, SV.int IntKind.i64 h_1, SV.bool h_2, SV.bool h_3,
                                                                                              SV.int IntKind.i64 h_4, SV.int IntKind.i64 h_5, SV.int IntKind.i64 h_6,
                                                                                              SV.struct [SV.int IntKind.i64 h_7_0, SV.arr IntKind.u8 16 h_7_1],
                                                                                              SV.struct [SV.int IntKind.i64 h_8_0, SV.arr IntKind.u8 16 h_8_1], SV.slice h_9,
                                                                                              SV.slice h_10])) ∧
                                                                                    J w1_4))))))))
theorem f33_of (h_0 : Int) (h_1 : Int) (h_2 : Bool) (h_3 : Bool) (h_4 : Int) (h_5 : Int) (h_6 : Int) (h_7_0 : Int) (h_7_1 : Nat → Int) (h_8_0 : Int) (h_8_1 : Nat → Int) (h_9 : Sl) (h_10 : Sl) (w : World) (R : SV → World → Prop) (h : vc33 h_0 h_1 h_2 h_3 h_4 h_5 h_6 h_7_0 h_7_1 h_8_0 h_8_1 h_9 h_10 w R) : Ret Tryd.prog 33 [.struct [.int .i64 h_0, .int .i64 h_1, .bool h_2, .bool h_3, .int .i64 h_4, .int .i64 h_5, .int .i64 h_6, .struct [.int .i64 h_7_0, .arr .u8 16 h_7_1], .struct [.int .i64 h_8_0, .arr .u8 16 h_8_1], .slice h_9, .slice h_10]] w R :=
  have e : vc33 h_0 h_1 h_2 h_3 h_4 h_5 h_6 h_7_0 h_7_1 h_8_0 h_8_1 h_9 h_10 w R = fnVC X Tryd.f33 a33 [.struct [.int .i64 h_0, .int .i64 h_1, .bool h_2, .bool h_3, .int .i64 h_4, .int .i64 h_5, .int .i64 h_6, .struct [.int .i64 h_7_0, .arr .u8 16 h_7_1], .struct [.int .i64 h_8_0, .arr .u8 16 h_8_1], .slice h_9, .slice h_10]] w R := by kernel_rfl
  fnVC_sound X_ok (n := a33) (e ▸ h) (by kernel_rfl) (by kernel_rfl) rfl rfl

def vc36 (h_0 : Int) (h_1 : Int) (h_2 : Bool) (h_3 : Bool) (h_4 : Int) (h_5 : Int) (h_6 : Int) (h_7_0 : Int) (h_7_1 : Nat → Int) (h_8_0 : Int) (h_8_1 : Nat → Int) (h_9 : Sl) (h_10 : Sl) (w : World) (R : SV → World → Prop) : Prop :=
  ∀ (b : Nat) (J : World → Prop),
    (∀ (w1 : World),
        (Ret Tryd.prog 35 [SV.slice h_9] w1 fun (r : SV) (w1_1 : World) =>
            ∃ (s : Sl),
              ∃ (n : Int),
                r = SV.tuple [SV.slice s, SV.int IntKind.i64 n] ∧
                  Keeps [b] w1 w1_1 ∧
                    Br (n != 0) (R (SV.int IntKind.i64 n) w1_1)
                      (Br (decide (wr IntKind.i64 (wr IntKind.i64 (20 + (↑s.2 : Int)) + (↑h_10.2 : Int)) > 65535)) (R (SV.int IntKind.i64 63) w1_1)
                        (Ret Tryd.prog 74 [SV.bool h_3, SV.int IntKind.i64 h_4, SV.int IntKind.i64 (↑h_10.2 : Int)] w1_1 fun (r : SV) (w1 : World) =>
                          ∃ (b_1 : Bool), r = SV.bool b_1 ∧ Keeps [b] w1_1 w1 ∧ Br b_1 (R (SV.int IntKind.i64 66) w1) (R (SV.int IntKind.i64 0) w1)))) →
          J w1) →
      ∀ (w1 : World),
        Upd [] [b] w w1 →
          Ret Tryd.prog 72 [SV.int IntKind.i64 h_0, SV.int IntKind.i64 255] w1 fun (r : SV) (w1_1 : World) =>
            ∃ (b_1 : Bool),
              r = SV.bool b_1 ∧
                Keeps [b] w1 w1_1 ∧
                  Br b_1 (R (SV.int IntKind.i64 68) w1_1)
                    (Ret Tryd.prog 72 [SV.int IntKind.i64 h_1, SV.int IntKind.i64 65535] w1_1 fun (r : SV) (w1 : World) =>
                      ∃ (b_2 : Bool),
                        r = SV.bool b_2 ∧
                          Keeps [b] w1_1 w1 ∧
                            Br b_2 (R (SV.int IntKind.i64 68) w1)
                              (Ret Tryd.prog 72 [SV.int IntKind.i64 h_4, SV.int IntKind.i64 65528] w1 fun (r : SV) (w1_2 : World) =>
                                ∃ (b_3 : Bool),
                                  r = SV.bool b_3 ∧
                                    Keeps [b] w1 w1_2 ∧
                                      Br b_3 (R (SV.int IntKind.i64 68) w1_2)
                                        (Br (Int.tmod h_4 8 != 0) (R (SV.int IntKind.i64 68) w1_2)
                                          (Ret Tryd.prog 72 [SV.int IntKind.i64 h_5, SV.int IntKind.i64 255] w1_2 fun (r : SV) (w1 : World) =>
                                            ∃ (b_4 : Bool),
                                              r = SV.bool b_4 ∧
                                                Keeps [b] w1_2 w1 ∧
                                                  Br b_4 (R (SV.int IntKind.i64 68) w1)
                                                    (Ret Tryd.prog 72 [SV.int IntKind.i64 h_6, SV.int IntKind.i64 255] w1 fun (r : SV) (w1_3 : World) =>
                                                      ∃ (b_5 : Bool),
                                                        r = SV.bool b_5 ∧
                                                          Keeps [b] w1 w1_3 ∧
                                                            Br b_5 (R (SV.int IntKind.i64 68) w1_3)
                                                              (Ret Tryd.prog 73 [SV.struct [SV.int IntKind.i64 h_7_0, SV.arr IntKind.u8 16 h_7_1]] w1_3 fun (r : SV) (w1 : World) =>
                                                                ∃ (b_6 : Bool),
                                                                  r = SV.bool b_6 ∧
                                                                    Keeps [b] w1_3 w1 ∧
                                                                      Br (!b_6) (R (SV.int IntKind.i64 68) w1)
                                                                        (Ret Tryd.prog 73 [SV.struct [SV.int IntKind.i64 h_8_0, SV.arr IntKind.u8 16 h_8_1]] w1
                                                                          fun (r : SV) (w1_4 : World) =>
                                                                          ∃ (b_7 : Bool),
                                                                            r = SV.bool b_7 ∧
                                                                              Keeps [b] w1 w1_4 ∧
                                                                                Br (!b_7) (R (SV.int IntKind.i64 68) w1_4)
                                                                                  (some
                                                                                        (SV.box b 30
                                                                                          (SV.struct
                                                                                            [SV.int IntKind.i64 h_0, SV.int IntKind.i64 h_1, SV.bool h_2, SV.bool h_3,
                                                                                              SV.int IntKind.i64 h_4, SV.int IntKind.i64 h_5, SV.int IntKind.i64 h_6,
                                                                                              SV.struct [SV.int IntKind.i64 h_7_0, SV.arr IntKind.u8 16 h_7_1],
                                                                                              SV.struct [SV.int IntKind.i64 h_8_0, SV.arr IntKind.u8 16 h_8_1], SV.slice h_9,
                                                                                              SV.slice h_10])) =
                                                                                      some
                                                                                        (SV.box b 30
                                                                                          (SV.struct
                                                                                            [SV.int IntKind.i64 h_0, SV.int IntKind.i64 h_1, SV.bool h_2, SV.bool h_3,
                                                                                              SV.int IntKind.i64 h_4, SV.int IntKind.i64 h_5, SV.int IntKind.i64 h_6,
                                                                                              SV.struct [SV.int IntKind.i64 h_7_0, SV.arr IntKind.u8 16 h_7_1],
                                                                                              SV.struct [SV.int IntKind.i64 h_8_0, SV.arr IntKind.u8 16 h_8_1], SV.slice h_9,
                                                                                              SV.slice h_10])) ∧
                                                                                    J w1_4))))))))
theorem f36_of (h_0 : Int) (h_1 : Int) (h_2 : Bool) (h_3 : Bool) (h_4 : Int) (h_5 : Int) (h_6 : Int) (h_7_0 : Int) (h_7_1 : Nat → Int) (h_8_0 : Int) (h_8_1 : Nat → Int) (h_9 : Sl) (h_10 : Sl) (w : World) (R : SV → World → Prop) (h : vc36 h_0 h_1 h_2 h_3 h_4 h_5 h_6 h_7_0 h_7_1 h_8_0 h_8_1 h_9 h_10 w R) : Ret Tryd.prog 36 [.struct [.int .i64 h_0, .int .i64 h_1, .bool h_2, .bool h_3, .int .i64 h_4, .int .i64 h_5, .int .i64 h_6, .struct [.int .i64 h_7_0, .arr .u8 16 h_7_1], .struct [.int .i64 h_8_0, .arr .u8 16 h_8_1], .slice h_9, .slice h_10]] w R :=
  have e : vc36 h_0 h_1 h_2 h_3 h_4 h_5 h_6 h_7_0 h_7_1 h_8_0 h_8_1 h_9 h_10 w R = fnVC X Tryd.f36 a36 [.struct [.int .i64 h_0, .int .i64 h_1, .bool h_2, .bool h_3, .int .i64 h_4, .int .i64 h_5, .int .i64 h_6, .struct [.int .i64 h_7_0, .arr .u8 16 h_7_1], .struct [.int .i64 h_8_0, .arr .u8 16 h_8_1], .slice h_9, .slice h_10]] w R := by kernel_rfl
  fnVC_sound X_ok (n := a36) (e ▸ h) (by kernel_rfl) (by kernel_rfl) rfl rfl

def vc20 (b : Sl) (w : World) (R : SV → World → Prop) : Prop := ∀ (b_1 : Nat), Br (decide ((↑b.2 : Int) > 65535)) (∀ (w1 : World), Upd [] [b_1] w w1 → R
  (SV.tuple [SV.struct [SV.int IntKind.i64 0, SV.int IntKind.i64 0, SV.bool false, SV.bool false, SV.int IntKind.i64 0, SV.int IntKind.i64 0, SV.int IntKind.i64
  0, SV.struct [SV.int IntKind.i64 0, SV.arr IntKind.u8 16 fun (x : Nat) => 0], SV.struct [SV.int IntKind.i64 0, SV.arr IntKind.u8 16 fun (x : Nat) => 0],
  SV.slice { ptr := none, len := 0, cap := 0 }, SV.slice { ptr := none, len := 0, cap := 0 }], SV.int IntKind.i64 2]) w1) (Br (decide ((↑b.2 : Int) < 20))
  (∀ (w1 : World), Upd [] [b_1] w w1 → R (SV.tuple [SV.struct [SV.int IntKind.i64 0, SV.int IntKind.i64 0, SV.bool false, SV.bool false, SV.int IntKind.i64
  0, SV.int IntKind.i64 0, SV.int IntKind.i64 0, SV.struct [SV.int IntKind.i64 0, SV.arr IntKind.u8 16 fun (x : Nat) => 0], SV.struct [SV.int IntKind.i64
  0, SV.arr IntKind.u8 16 fun (x : Nat) => 0], SV.slice { ptr := none, len := 0, cap := 0 }, SV.slice { ptr := none, len := 0, cap := 0 }], SV.int IntKind.i64
  60]) w1) (∃ (f : Nat → Int), (∀ (i : Nat), i < 12 → World.cell? w (Addr.add { block := 0, off := 0 } (0 + i)) = some (Value.int IntKind.i64 (f i))) ∧ ∀
  (b_2 : Nat) (w1 : World), Upd [] [b_2, b_1] w w1 → (World.heap w1)[b_2]? = some (Obj.cells { toList := SV.cells (SV.arr IntKind.i64 12 f) } 95) → Off b_2
  [b_1] → Ret Tryd.prog 58 [SV.slice b, SV.int IntKind.i64 0, SV.slice (Sl.sub { ptr := some { block := b_2, off := 0 }, len := 12, cap := 12 } 1 0 12 12)]
  w1 fun (r : SV) (w1_1 : World) => ∃ (s : Sl), ∃ (n : Int), ∃ (n_1 : Int), r = SV.tuple [SV.slice s, SV.int IntKind.i64 n, SV.int IntKind.i64 n_1] ∧ Keeps
  [b_1] w1 w1_1 ∧ Need (decide (1 < (↑s.2 : Int)) && Option.isSome s.1) (∃ (n : Int), World.cell? w1_1 (Sl.at s 1 1) = some (Value.int IntKind.i64 n) ∧ Need
  (decide (3 < (↑s.2 : Int)) && Option.isSome s.1) (∃ (n_2 : Int), World.cell? w1_1 (Sl.at s 1 3) = some (Value.int IntKind.i64 n_2) ∧ ∀ (J : Int → Int →
  Bool → Bool → Int → Int → Int → Int → (Nat → Int) → Int → (Nat → Int) → Sl → Sl → World → Prop), (∀ (n_3 n_4 : Int) (b_3 b_4 : Bool) (n_5 n_6 n_7 n_8 :
  Int) (f : Nat → Int) (n_9 : Int) (f_1 : Nat → Int) (s_1 s_2 : Sl) (w1 : World), Need (decide (0 ≤ wr IntKind.i64 (4 * n)) && decide (wr IntKind.i64 (4 *
  n) ≤ (↑b.3 : Int)) && (decide (0 ≤ wr IntKind.i64 (4 * n)) && decide (wr IntKind.i64 (4 * n) ≤ (↑(Int.toNat (wr IntKind.i64 (4 * n))) : Int))) && decide
  (20 ≤ (↑(Int.toNat (wr IntKind.i64 (4 * n))) : Int))) (Ret Tryd.prog 49 [SV.slice (Sl.sub b 1 20 (Int.toNat (wr IntKind.i64 (4 * n))) (Int.toNat (wr IntKind.i64
  (4 * n))))] w1 fun (r : SV) (w1_2 : World) => ∃ (s_3 : Sl), ∃ (n_10 : Int), r = SV.tuple [SV.slice s_3, SV.int IntKind.i64 n_10] ∧ Keeps [b_1] w1 w1_2 ∧
  ∀ (J : Int → World → Prop), (∀ (n_11 : Int) (w1 : World), Br (n_11 != 0) (∀ (w1_3 : World), Upd [b_1] [] w1 w1_3 → R (SV.tuple [SV.struct [SV.int IntKind.i64
  0, SV.int IntKind.i64 0, SV.bool false, SV.bool false, SV.int IntKind.i64 0, SV.int IntKind.i64 0, SV.int IntKind.i64 0, SV.struct [SV.int IntKind.i64 0,
  SV.arr IntKind.u8 16 fun (x : Nat) => 0], SV.struct [SV.int IntKind.i64 0, SV.arr IntKind.u8 16 fun (x : Nat) => 0], SV.slice { ptr := none, len := 0, cap := 0 },
  SV.slice { ptr := none, len := 0, cap := 0 }], SV.int IntKind.i64 n_11]) w1_3) (Need (decide (2 < (↑s.2 : Int)) && Option.isSome s.1) (∃ (n_12 : Int), World.cell?
  w1 (Sl.at s 1 2) = some (Value.int IntKind.i64 n_12) ∧ Need (decide (4 < (↑s.2 : Int)) && Option.isSome s.1) (∃ (n_13 : Int), World.cell? w1 (Sl.at s 1
  4) = some (Value.int IntKind.i64 n_13) ∧ Need (decide (6 < (↑s.2 : Int)) && Option.isSome s.1) (∃ (n_14 : Int), World.cell? w1 (Sl.at s 1 6) = some (Value.int
  IntKind.i64 n_14) ∧ Need (decide (7 < (↑s.2 : Int)) && Option.isSome s.1) (∃ (n_15 : Int), World.cell? w1 (Sl.at s 1 7) = some (Value.int IntKind.i64 n_15)
  ∧ Need (decide (8 < (↑s.2 : Int)) && Option.isSome s.1) (∃ (n_16 : Int), World.cell? w1 (Sl.at s 1 8) = some (Value.int IntKind.i64 n_16) ∧ Need (decide
  (9 < (↑s.2 : Int)) && Option.isSome s.1) (∃ (n_17 : Int), World.cell? w1 (Sl.at s 1 9) = some (Value.int IntKind.i64 n_17) ∧ Need (decide (10 < (↑s.2 :
  Int)) && Option.isSome s.1) (∃ (n_18 : Int), World.cell? w1 (Sl.at s 1 10) = some (Value.int IntKind.i64 n_18) ∧ (∀ (w1_3 : World), Upd [] [] w1 w1_3 →
  Ret Tryd.prog 60 [SV.int IntKind.i64 n_14] w1_3 fun (r : SV) (w1_4 : World) => ∃ (b_5 : Bool), r = SV.bool b_5 ∧ Keeps [b_1] w1_3 w1_4 ∧ Upd [] [] w1 w1_4
  ∧ (Ret Tryd.prog 60 [SV.int IntKind.i64 n_15] w1_4 fun (r : SV) (w1_5 : World) => ∃ (b_6 : Bool), r = SV.bool b_6 ∧ Keeps [b_1] w1_4 w1_5 ∧ Upd [] [] w1
  w1_5 ∧ ∀ (b_7 : Nat), Upd [] [] w1 w1_5 ∧ Need (decide (16 ≤ (↑b.3 : Int)) && decide (12 ≤ 16)) (Need (decide (20 ≤ (↑b.3 : Int)) && decide (16 ≤ 20)) (∀
  (w1 : World), Upd [] [b_7] w1_5 w1 → Ret Tryd.prog 61 [SV.slice (Sl.sub b 1 12 16 b.3)] w1 fun (r : SV) (w1_6 : World) => ∃ (n_19 : Int), ∃ (f : Nat → Int),
  r = SV.struct [SV.int IntKind.i64 n_19, SV.arr IntKind.u8 16 f] ∧ Keeps [b_1, b_7] w1 w1_6 ∧ Ret Tryd.prog 61 [SV.slice (Sl.sub b 1 16 20 b.3)] w1_6 fun
  (r : SV) (w1 : World) => ∃ (n_20 : Int), ∃ (f_2 : Nat → Int), r = SV.struct [SV.int IntKind.i64 n_20, SV.arr IntKind.u8 16 f_2] ∧ Keeps [b_1, b_7] w1_6
  w1 ∧ Need (decide (0 ≤ n_2) && decide (n_2 ≤ (↑b.3 : Int)) && (decide (0 ≤ n_2) && decide (n_2 ≤ (↑(Int.toNat n_2) : Int))) && (decide (0 ≤ wr IntKind.i64
  (4 * n)) && decide (wr IntKind.i64 (4 * n) ≤ (↑(Int.toNat n_2) : Int)))) (∀ (w1_7 : World), Upd [b_1, b_7] [] w1 w1_7 → R (SV.tuple [SV.struct [SV.int IntKind.i64
  n_12, SV.int IntKind.i64 n_13, SV.bool b_5, SV.bool b_6, SV.int IntKind.i64 (wr IntKind.i64 (8 * n_16)), SV.int IntKind.i64 n_17, SV.int IntKind.i64 n_18,
  SV.struct [SV.int IntKind.i64 n_19, SV.arr IntKind.u8 16 f], SV.struct [SV.int IntKind.i64 n_20, SV.arr IntKind.u8 16 f_2], SV.slice s_3, SV.slice (Sl.sub
  b 1 (Int.toNat (wr IntKind.i64 (4 * n))) (Int.toNat n_2) (Int.toNat n_2))], SV.int IntKind.i64 0]) w1_7)))) ∧ ∀ (b_6 : Nat), Upd [] [] w1 w1_4 ∧ ∀ (w1_5
  : World), Upd [] [b_6] w1_4 w1_5 → Ret Tryd.prog 60 [SV.int IntKind.i64 n_15] w1_5 fun (r : SV) (w1_6 : World) => ∃ (b_7 : Bool), r = SV.bool b_7 ∧ Keeps
  [b_1, b_6] w1_5 w1_6 ∧ Upd [] [] w1 w1_6 ∧ ∀ (w1 : World), Upd [b_6] [] w1_6 w1 → Need (decide (16 ≤ (↑b.3 : Int)) && decide (12 ≤ 16)) (Need (decide (20
  ≤ (↑b.3 : Int)) && decide (16 ≤ 20)) (∀ (w1_7 : World), Upd [] [] w1 w1_7 → Ret Tryd.prog 61 [SV.slice (Sl.sub b 1 12 16 b.3)] w1_7 fun (r : SV) (w1 : World)
  => ∃ (n_19 : Int), ∃ (f : Nat → Int), r = SV.struct [SV.int IntKind.i64 n_19, SV.arr IntKind.u8 16 f] ∧ Keeps [b_1, b_6] w1_7 w1 ∧ Ret Tryd.prog 61 [SV.slice
  (Sl.sub b 1 16 20 b.3)] w1 fun (r : SV) (w1_8 : World) => ∃ (n_20 : Int), ∃ (f_2 : Nat → Int), r = SV.struct [SV.int IntKind.i64 n_20, SV.arr IntKind.u8
  16 f_2] ∧ Keeps [b_1, b_6] w1 w1_8 ∧ Need (decide (0 ≤ n_2) && decide (n_2 ≤ (↑b.3 : Int)) && (decide (0 ≤ n_2) && decide (n_2 ≤ (↑(Int.toNat n_2) : Int)))
  && (decide (0 ≤ wr IntKind.i64 (4 * n)) && decide (wr IntKind.i64 (4 * n) ≤ (↑(Int.toNat n_2) : Int)))) (∀ (w1 : World), Upd [b_1, b_6] [] w1_8 w1 → R (SV.tuple
  [SV.struct [SV.int IntKind.i64 n_12, SV.int IntKind.i64 n_13, SV.bool b_5, SV.bool b_7, SV.int IntKind.i64 (wr IntKind.i64 (8 * n_16)), SV.int IntKind.i64
  n_17, SV.int IntKind.i64 n_18, SV.struct [SV.int IntKind.i64 n_19, SV.arr IntKind.u8 16 f], SV.struct [SV.int IntKind.i64 n_20, SV.arr IntKind.u8 16 f_2],
  SV.slice s_3, SV.slice (Sl.sub b 1 (Int.toNat (wr IntKind.i64 (4 * n))) (Int.toNat n_2) (Int.toNat n_2))], SV.int IntKind.i64 0]) w1)))) ∧ ∀ (b_5 : Nat),
  Upd [] [] w1 w1 ∧ ∀ (w1_3 : World), Upd [] [b_5] w1 w1_3 → Ret Tryd.prog 60 [SV.int IntKind.i64 n_14] w1_3 fun (r : SV) (w1_4 : World) => ∃ (b_6 : Bool),
  r = SV.bool b_6 ∧ Keeps [b_1, b_5] w1_3 w1_4 ∧ Upd [] [] w1 w1_4 ∧ Ret Tryd.prog 60 [SV.int IntKind.i64 n_15] w1_4 fun (r : SV) (w1_5 : World) => ∃ (b_7
  : Bool), r = SV.bool b_7 ∧ Keeps [b_1, b_5] w1_4 w1_5 ∧ Upd [] [] w1 w1_5 ∧ ∀ (w1 : World), Upd [b_5] [] w1_5 w1 → Need (decide (16 ≤ (↑b.3 : Int)) && decide
  (12 ≤ 16)) (Need (decide (20 ≤ (↑b.3 : Int)) && decide (16 ≤ 20)) (∀ (w1_6 : World), Upd [] [] w1 w1_6 → Ret Tryd.prog 61 [SV.slice (Sl.sub b 1 12 16 b.3)]
  w1_6 fun (r : SV) (w1 : World) => ∃ (n_19 : Int), ∃ (f : Nat → Int), r = SV.struct [SV.int IntKind.i64 n_19, SV.arr IntKind.u8 16 f] ∧ Keeps [b_1, b_5]
  w1_6 w1 ∧ Ret Tryd.prog 61 [SV.slice (Sl.sub b 1 16 20 b.3)] w1 fun (r : SV) (w1_7 : World) => ∃ (n_20 : Int), ∃ (f_2 : Nat → Int), r = SV.struct [SV.int
  IntKind.i64 n_20, SV.arr IntKind.u8 16 f_2] ∧ Keeps [b_1, b_5] w1 w1_7 ∧ Need (decide (0 ≤ n_2) && decide (n_2 ≤ (↑b.3 : Int)) && (decide (0 ≤ n_2) && decide
  (n_2 ≤ (↑(Int.toNat n_2) : Int))) && (decide (0 ≤ wr IntKind.i64 (4 * n)) && decide (wr IntKind.i64 (4 * n) ≤ (↑(Int.toNat n_2) : Int)))) (∀ (w1 : World),
  Upd [b_1, b_5] [] w1_7 w1 → R (SV.tuple [SV.struct [SV.int IntKind.i64 n_12, SV.int IntKind.i64 n_13, SV.bool b_6, SV.bool b_7, SV.int IntKind.i64 (wr IntKind.i64
  (8 * n_16)), SV.int IntKind.i64 n_17, SV.int IntKind.i64 n_18, SV.struct [SV.int IntKind.i64 n_19, SV.arr IntKind.u8 16 f], SV.struct [SV.int IntKind.i64
  n_20, SV.arr IntKind.u8 16 f_2], SV.slice s_3, SV.slice (Sl.sub b 1 (Int.toNat (wr IntKind.i64 (4 * n))) (Int.toNat n_2) (Int.toNat n_2))], SV.int IntKind.i64
  0]) w1))))))))))) → J n_11 w1) → Br (n_10 == 0) (Need (decide (7 < (↑s.2 : Int)) && Option.isSome s.1) (∃ (n_11 : Int), World.cell? w1_2 (Sl.at s 1 7) =
  some (Value.int IntKind.i64 n_11) ∧ Need (decide (8 < (↑s.2 : Int)) && Option.isSome s.1) (∃ (n_12 : Int), World.cell? w1_2 (Sl.at s 1 8) = some (Value.int
  IntKind.i64 n_12) ∧ ∀ (w1 : World), Upd [] [] w1_2 w1 → Ret Tryd.prog 60 [SV.int IntKind.i64 n_11] w1 fun (r : SV) (w1_3 : World) => ∃ (b : Bool), r = SV.bool
  b ∧ Keeps [b_1] w1 w1_3 ∧ Upd [] [] w1_2 w1_3 ∧ Ret Tryd.prog 59 [SV.bool b, SV.int IntKind.i64 (wr IntKind.i64 (8 * n_12)), SV.int IntKind.i64 (wr IntKind.i64
  (n_2 - wr IntKind.i64 (4 * n)))] w1_3 fun (r : SV) (w1 : World) => ∃ (n : Int), r = SV.int IntKind.i64 n ∧ Keeps [b_1] w1_3 w1 ∧ some (SV.box b_1 30 (SV.struct
  [SV.int IntKind.i64 n_3, SV.int IntKind.i64 n_4, SV.bool b_3, SV.bool b_4, SV.int IntKind.i64 n_5, SV.int IntKind.i64 n_6, SV.int IntKind.i64 n_7, SV.struct
  [SV.int IntKind.i64 n_8, SV.arr IntKind.u8 16 f], SV.struct [SV.int IntKind.i64 n_9, SV.arr IntKind.u8 16 f_1], SV.slice s_1, SV.slice s_2])) = some (SV.box
  b_1 30 (SV.struct [SV.int IntKind.i64 n_3, SV.int IntKind.i64 n_4, SV.bool b_3, SV.bool b_4, SV.int IntKind.i64 n_5, SV.int IntKind.i64 n_6, SV.int IntKind.i64
  n_7, SV.struct [SV.int IntKind.i64 n_8, SV.arr IntKind.u8 16 f], SV.struct [SV.int IntKind.i64 n_9, SV.arr IntKind.u8 16 f_1], SV.slice s_1, SV.slice s_2]))
  ∧ J n w1))) (some (SV.box b_1 30 (SV.struct [SV.int IntKind.i64 n_3, SV.int IntKind.i64 n_4, SV.bool b_3, SV.bool b_4, SV.int IntKind.i64 n_5, SV.int IntKind.i64
  n_6, SV.int IntKind.i64 n_7, SV.struct [SV.int IntKind.i64 n_8, SV.arr IntKind.u8 16 f], SV.struct [SV.int IntKind.i64 n_9, SV.arr IntKind.u8 16 f_1], SV.slice
  s_1, SV.slice s_2])) = some (SV.box b_1 30 (SV.struct [SV.int IntKind.i64 n_3, SV.int IntKind.i64 n_4, SV.bool b_3, SV.bool b_4, SV.int IntKind.i64 n_5,
  SV.int IntKind.i64 n_6, SV.int IntKind.i64 n_7, SV.struct [SV.int IntKind.i64 n_8, SV.arr IntKind.u8 16 f], SV.struct [SV.int IntKind.i64 n_9, SV.arr IntKind.u8
  16 f_1], SV.slice s_1, SV.slice s_2])) ∧ J n_10 w1_2)) → J n_3 n_4 b_3 b_4 n_5 n_6 n_7 n_8 f n_9 f_1 s_1 s_2 w1) → Need (decide (0 < (↑s.2 : Int)) && Option.isSome
  s.1) (∃ (n_3 : Int), World.cell? w1_1 (Sl.at s 1 0) = some (Value.int IntKind.i64 n_3) ∧ Br (n_3 != 4) (∀ (w1 : World), Upd [b_1] [] w1_1 w1 → R (SV.tuple
  [SV.struct [SV.int IntKind.i64 0, SV.int IntKind.i64 0, SV.bool false, SV.bool false, SV.int IntKind.i64 0, SV.int IntKind.i64 0, SV.int IntKind.i64 0,
  SV.struct [SV.int IntKind.i64 0, SV.arr IntKind.u8 16 fun (x : Nat) => 0], SV.struct [SV.int IntKind.i64 0, SV.arr IntKind.u8 16 fun (x : Nat) => 0], SV.slice
  { ptr := none, len := 0, cap := 0 }, SV.slice { ptr := none, len := 0, cap := 0 }], SV.int IntKind.i64 61]) w1) (Br (decide (wr IntKind.i64 (4 * n) < 20))
  (∀ (w1 : World), Upd [b_1] [] w1_1 w1 → R (SV.tuple [SV.struct [SV.int IntKind.i64 0, SV.int IntKind.i64 0, SV.bool false, SV.bool false, SV.int IntKind.i64
  0, SV.int IntKind.i64 0, SV.int IntKind.i64 0, SV.struct [SV.int IntKind.i64 0, SV.arr IntKind.u8 16 fun (x : Nat) => 0], SV.struct [SV.int IntKind.i64
  0, SV.arr IntKind.u8 16 fun (x : Nat) => 0], SV.slice { ptr := none, len := 0, cap := 0 }, SV.slice { ptr := none, len := 0, cap := 0 }], SV.int IntKind.i64
  62]) w1) (Br (decide (wr IntKind.i64 (4 * n) > (↑b.2 : Int))) (∀ (w1 : World), Upd [b_1] [] w1_1 w1 → R (SV.tuple [SV.struct [SV.int IntKind.i64 0, SV.int
  IntKind.i64 0, SV.bool false, SV.bool false, SV.int IntKind.i64 0, SV.int IntKind.i64 0, SV.int IntKind.i64 0, SV.struct [SV.int IntKind.i64 0, SV.arr IntKind.u8
  16 fun (x : Nat) => 0], SV.struct [SV.int IntKind.i64 0, SV.arr IntKind.u8 16 fun (x : Nat) => 0], SV.slice { ptr := none, len := 0, cap := 0 }, SV.slice
  { ptr := none, len := 0, cap := 0 }], SV.int IntKind.i64 62]) w1) (Br (decide (n_2 < wr IntKind.i64 (4 * n))) (∀ (w1 : World), Upd [b_1] [] w1_1 w1 → R
  (SV.tuple [SV.struct [SV.int IntKind.i64 0, SV.int IntKind.i64 0, SV.bool false, SV.bool false, SV.int IntKind.i64 0, SV.int IntKind.i64 0, SV.int IntKind.i64
  0, SV.struct [SV.int IntKind.i64 0, SV.arr IntKind.u8 16 fun (x : Nat) => 0], SV.struct [SV.int IntKind.i64 0, SV.arr IntKind.u8 16 fun (x : Nat) => 0],
  SV.slice { ptr := none, len := 0, cap := 0 }, SV.slice { ptr := none, len := 0, cap := 0 }], SV.int IntKind.i64 63]) w1) (Br (decide (n_2 > (↑b.2 : Int)))
  (∀ (w1 : World), Upd [b_1] [] w1_1 w1 → R (SV.tuple [SV.struct [SV.int IntKind.i64 0, SV.int IntKind.i64 0, SV.bool false, SV.bool false, SV.int IntKind.i64
  0, SV.int IntKind.i64 0, SV.int IntKind.i64 0, SV.struct [SV.int IntKind.i64 0, SV.arr IntKind.u8 16 fun (x : Nat) => 0], SV.struct [SV.int IntKind.i64
  0, SV.arr IntKind.u8 16 fun (x : Nat) => 0], SV.slice { ptr := none, len := 0, cap := 0 }, SV.slice { ptr := none, len := 0, cap := 0 }], SV.int IntKind.i64
  63]) w1) (Need (decide (0 ≤ wr IntKind.i64 (4 * n)) && decide (wr IntKind.i64 (4 * n) ≤ (↑b.3 : Int))) (∀ (b_3 : Nat) (w1 : World), Upd [] [b_3] w1_1 w1
  → (World.heap w1)[b_3]? = some (Obj.cells { toList := SV.cells (SV.struct [SV.slice (Sl.sub b 1 0 (Int.toNat (wr IntKind.i64 (4 * n))) b.3)]) } 22) → Ret
  Tryd.prog 44 [SV.slice { ptr := some { block := b_3, off := 0 }, len := 1, cap := 1 }] w1 fun (r : SV) (w1_2 : World) => ∃ (b : Bool), r = SV.bool b ∧ Keeps
  [b_1] w1 w1_2 ∧ Br (!b) (∀ (w1 : World), Upd [b_1] [] w1_2 w1 → R (SV.tuple [SV.struct [SV.int IntKind.i64 0, SV.int IntKind.i64 0, SV.bool false, SV.bool
  false, SV.int IntKind.i64 0, SV.int IntKind.i64 0, SV.int IntKind.i64 0, SV.struct [SV.int IntKind.i64 0, SV.arr IntKind.u8 16 fun (x : Nat) => 0], SV.struct
  [SV.int IntKind.i64 0, SV.arr IntKind.u8 16 fun (x : Nat) => 0], SV.slice { ptr := none, len := 0, cap := 0 }, SV.slice { ptr := none, len := 0, cap := 0 }],
  SV.int IntKind.i64 64]) w1) ((b_1, 30) = (b_1, 30) ∧ J 0 0 false false 0 0 0 0 (fun (x : Nat) => 0) 0 (fun (x : Nat) => 0) { ptr := none, len := 0, cap := 0 }
  { ptr := none, len := 0, cap := 0 } w1_2))))))))))))
theorem f20_of (b : Sl) (w : World) (R : SV → World → Prop) (h : vc20 b w R) : Ret Tryd.prog 20 [.slice b] w R :=
  have e : vc20 b w R = fnVC X Tryd.f20 a20 [.slice b] w R := by kernel_rfl
  fnVC_sound X_ok (n := a20) (e ▸ h) (by kernel_rfl) (by kernel_rfl) rfl rfl

def vc25 (h_0 : Int) (h_1 : Int) (h_2 : Bool) (h_3 : Bool) (h_4 : Int) (h_5 : Int) (h_6 : Int) (h_7_0 : Int) (h_7_1 : Nat → Int) (h_8_0 : Int) (h_8_1 : Nat → Int) (h_9 : Sl) (h_10 : Sl) (w : World) (R : SV → World → Prop) : Prop :=
  ∀ (b : Nat) (w1 : World),
    Upd [] [b] w w1 →
      Ret Tryd.prog 33
        [SV.struct
            [SV.int IntKind.i64 h_0, SV.int IntKind.i64 h_1, SV.bool h_2, SV.bool h_3, SV.int IntKind.i64 h_4, SV.int IntKind.i64 h_5, SV.int IntKind.i64 h_6,
              SV.struct [SV.int IntKind.i64 h_7_0, SV.arr IntKind.u8 16 h_7_1], SV.struct [SV.int IntKind.i64 h_8_0, SV.arr IntKind.u8 16 h_8_1], SV.slice h_9, SV.slice h_10]]
        w1 fun (r : SV) (w1_1 : World) =>
        ∃ (n : Int),
          r = SV.int IntKind.i64 n ∧
            Keeps [b] w1 w1_1 ∧
              Br (n != 0) (R (SV.tuple [SV.slice { ptr := none, len := 0, cap := 0 }, SV.int IntKind.i64 n]) w1_1)
                (Ret Tryd.prog 27 [SV.slice h_9] w1_1 fun (r : SV) (w1 : World) =>
                  ∃ (s : Sl),
                    ∃ (n : Int),
                      r = SV.tuple [SV.slice s, SV.int IntKind.i64 n] ∧
                        Keeps [b] w1_1 w1 ∧
                          ∃ (f : Nat → Int),
                            (∀ (i : Nat), i < 12 → World.cell? w1 (Addr.add { block := 0, off := 0 } (0 + i)) = some (Value.int IntKind.i64 (f i))) ∧
                              ∀ (b_1 : Nat) (w1_2 : World),
                                Upd [] [b_1] w1 w1_2 →
                                  (World.heap w1_2)[b_1]? = some (Obj.cells { toList := SV.cells (SV.arr IntKind.i64 12 f) } 95) →
                                    Off b_1 [b] →
                                      (Upd [] [] w1_2 w1_2 ∧
                                          ∀ (w1 : World),
                                            Upd [] [] w1_2 w1 →
                                              Ret Tryd.prog 63 [SV.bool h_2] w1 fun (r : SV) (w1_3 : World) =>
                                                ∃ (n : Int),
                                                  r = SV.int IntKind.i64 n ∧
                                                    Keeps [b] w1 w1_3 ∧
                                                      Upd [] [] w1_2 w1_3 ∧
                                                        Ret Tryd.prog 63 [SV.bool h_3] w1_3 fun (r : SV) (w1 : World) =>
                                                          ∃ (n_1 : Int),
                                                            r = SV.int IntKind.i64 n_1 ∧
                                                              Keeps [b] w1_3 w1 ∧
                                                                Upd [] [] w1_2 w1 ∧
                                                                  ∀ (b_2 : Nat) (w1_4 : World),
                                                                    Upd [] [b_2] w1 w1_4 →
                                                                      (World.heap w1_4)[b_2]? =
                                                                          some
                                                                            (Obj.cells
                                                                              {
                                                                                toList :=
                                                                                  SV.cells
                                                                                    (SV.struct
                                                                                      [SV.int IntKind.i64 4,
                                                                                        SV.int IntKind.i64 (wr IntKind.i64 (Int.tdiv (wr IntKind.i64 (20 + (↑s.2 : Int))) 4)),
                                                                                        SV.int IntKind.i64 h_0,
                                                                                        SV.int IntKind.i64 (wr IntKind.i64 (wr IntKind.i64 (20 + (↑s.2 : Int)) + (↑h_10.2 : Int))),
                                                                                        SV.int IntKind.i64 h_1, SV.int IntKind.i64 0, SV.int IntKind.i64 n, SV.int IntKind.i64 n_1,
                                                                                        SV.int IntKind.i64 (wr IntKind.i64 (Int.tdiv h_4 8)), SV.int IntKind.i64 h_5,
                                                                                        SV.int IntKind.i64 h_6, SV.int IntKind.i64 0]) }
                                                                              3) →
                                                                        Ret Tryd.prog 62
                                                                          [SV.slice (Sl.sub { ptr := some { block := b_1, off := 0 }, len := 12, cap := 12 } 1 0 12 12),
                                                                            SV.slice { ptr := some { block := b_2, off := 0 }, len := 12, cap := 12 }]
                                                                          w1_4 fun (r : SV) (w1 : World) =>
                                                                          ∃ (s_1 : Sl),
                                                                            ∃ (n : Int),
                                                                              r = SV.tuple [SV.slice s_1, SV.int IntKind.i64 n] ∧
                                                                                Keeps [b] w1_4 w1 ∧
                                                                                  Br (n != 0) (R (SV.tuple [SV.slice { ptr := none, len := 0, cap := 0 }, SV.int IntKind.i64 n]) w1)
                                                                                    ((World.heap w1)[b]? =
                                                                                        some
                                                                                          (Obj.cells
                                                                                            {
                                                                                              toList :=
                                                                                                SV.cells
                                                                                                  (SV.struct
                                                                                                    [SV.int IntKind.i64 h_0, SV.int IntKind.i64 h_1, SV.bool h_2, SV.bool h_3,
                                                                                                      SV.int IntKind.i64 h_4, SV.int IntKind.i64 h_5, SV.int IntKind.i64 h_6,
                                                                                                      SV.struct [SV.int IntKind.i64 h_7_0, SV.arr IntKind.u8 16 h_7_1],
                                                                                                      SV.struct [SV.int IntKind.i64 h_8_0, SV.arr IntKind.u8 16 h_8_1], SV.slice h_9,
                                                                                                      SV.slice h_10]) }
                                                                                            30) →
                                                                                      Vc.Append 5 1 1 s_1
                                                                                        (Sl.sub { ptr := some { block := b, off := 8 }, len := 16, cap := 16 } 1 0 4 16) [] w1
                                                                                        fun (r : Sl) (w : World) =>
                                                                                        Vc.Append 5 1 1 r
                                                                                          (Sl.sub
                                                                                            { ptr := some (Addr.add (Addr.add { block := b, off := 0 } 24) 1), len := 16, cap := 16 }
                                                                                            1 0 4 16)
                                                                                          [] w fun (r : Sl) (w : World) =>
                                                                                          Vc.Append 5 1 1 r s [] w fun (r : Sl) (w : World) =>
                                                                                            ∀ (b_3 : Nat) (w1 : World),
                                                                                              Upd [] [b_3] w w1 →
                                                                                                (World.heap w1)[b_3]? =
                                                                                                    some (Obj.cells { toList := SV.cells (SV.struct [SV.slice r]) } 22) →
                                                                                                  Ret Tryd.prog 64
                                                                                                    [SV.slice { ptr := some { block := b_3, off := 0 }, len := 1, cap := 1 }] w1
                                                                                                    fun (r_1 : SV) (w1 : World) =>
                                                                                                    ∃ (n : Int),
                                                                                                      r_1 = SV.int IntKind.i64 n ∧
                                                                                                        Need (decide (10 < (↑r.2 : Int)) && Option.isSome r.1)
                                                                                                          (Store w1 (Sl.at r 1 10)
                                                                                                            (SV.cells (SV.int IntKind.u8 (wr IntKind.u8 (gshr IntKind.i64 n 8)))) []
                                                                                                            fun (w1 : World) =>
                                                                                                            Need (decide (11 < (↑r.2 : Int)) && Option.isSome r.1)
                                                                                                              (Store w1 (Sl.at r 1 11)
                                                                                                                (SV.cells (SV.int IntKind.u8 (wr IntKind.u8 n))) []
                                                                                                                fun (w1 : World) =>
                                                                                                                ∃ (s : Sl),
                                                                                                                  World.cell? w1 (Addr.add { block := b, off := 0 } 42) =
                                                                                                                      some (Sl.val s) ∧
                                                                                                                    Vc.Append 5 1 1 r s [] w1 fun (r : Sl) (w : World) =>
                                                                                                                      R (SV.tuple [SV.slice r, SV.int IntKind.i64 0]) w)))) ∧
                                        ∀ (w1 : World),
                                          Upd [] [] w1_2 w1 →
                                            Ret Tryd.prog 63 [SV.bool h_2] w1 fun (r : SV) (w1_3 : World) =>
                                              ∃ (n : Int),
                                                r = SV.int IntKind.i64 n ∧
                                                  Keeps [b] w1 w1_3 ∧
                                                    Upd [] [] w1_2 w1_3 ∧
                                                      (Upd [] [] w1_2 w1_3 ∧
                                                          Ret Tryd.prog 63 [SV.bool h_3] w1_3 fun (r : SV) (w1 : World) =>
                                                            ∃ (n_1 : Int),
                                                              r = SV.int IntKind.i64 n_1 ∧
                                                                Keeps [b] w1_3 w1 ∧
                                                                  Upd [] [] w1_2 w1 ∧
                                                                    ∀ (b_2 : Nat) (w1_4 : World),
                                                                      Upd [] [b_2] w1 w1_4 →
                                                                        (World.heap w1_4)[b_2]? =
                                                                            some
                                                                              (Obj.cells
                                                                                {
                                                                                  toList :=
                                                                                    SV.cells
                                                                                      (SV.struct
                                                                                        [SV.int IntKind.i64 4,
                                                                                          SV.int IntKind.i64 (wr IntKind.i64 (Int.tdiv (wr IntKind.i64 (20 + (↑s.2 : Int))) 4)),
                                                                                          SV.int IntKind.i64 h_0,
                                                                                          SV.int IntKind.i64 (wr IntKind.i64 (wr IntKind.i64 (20 + (↑s.2 : Int)) + (↑h_10.2 : Int))),
                                                                                          SV.int IntKind.i64 h_1, SV.int IntKind.i64 0, SV.int IntKind.i64 n, SV.int IntKind.i64 n_1,
                                                                                          SV.int IntKind.i64 (wr IntKind.i64 (Int.tdiv h_4 8)), SV.int IntKind.i64 h_5,
                                                                                          SV.int IntKind.i64 h_6, SV.int IntKind.i64 0]) }
                                                                                3) →
                                                                          Ret Tryd.prog 62
                                                                            [SV.slice (Sl.sub { ptr := some { block := b_1, off := 0 }, len := 12, cap := 12 } 1 0 12 12),
                                                                              SV.slice { ptr := some { block := b_2, off := 0 }, len := 12, cap := 12 }]
                                                                            w1_4 fun (r : SV) (w1 : World) =>
                                                                            ∃ (s_1 : Sl),
                                                                              ∃ (n : Int),
                                                                                r = SV.tuple [SV.slice s_1, SV.int IntKind.i64 n] ∧
                                                                                  Keeps [b] w1_4 w1 ∧
                                                                                    Br (n != 0) (R (SV.tuple [SV.slice { ptr := none, len := 0, cap := 0 }, SV.int IntKind.i64 n]) w1)
                                                                                      ((World.heap w1)[b]? =
                                                                                          some
                                                                                            (Obj.cells
                                                                                              {
                                                                                                toList :=
                                                                                                  SV.cells
                                                                                                    (SV.struct
                                                                                                      [SV.int IntKind.i64 h_0, SV.int IntKind.i64 h_1, SV.bool h_2, SV.bool h_3,
                                                                                                        SV.int IntKind.i64 h_4, SV.int IntKind.i64 h_5, SV.int IntKind.i64 h_6,
                                                                                                        SV.struct [SV.int IntKind.i64 h_7_0, SV.arr IntKind.u8 16 h_7_1],
                                                                                                        SV.struct [SV.int IntKind.i64 h_8_0, SV.arr IntKind.u8 16 h_8_1],
                                                                                                        SV.slice h_9, SV.slice h_10]) }
                                                                                              30) →
                                                                                        Vc.Append 5 1 1 s_1
                                                                                          (Sl.sub { ptr := some { block := b, off := 8 }, len := 16, cap := 16 } 1 0 4 16) [] w1
                                                                                          fun (r : Sl) (w : World) =>
                                                                                          Vc.Append 5 1 1 r
                                                                                            (Sl.sub
                                                                                              { ptr := some (Addr.add (Addr.add { block := b, off := 0 } 24) 1), len := 16,
                                                                                                cap := 16 }
                                                                                              1 0 4 16)
                                                                                            [] w fun (r : Sl) (w : World) =>
                                                                                            Vc.Append 5 1 1 r s [] w fun (r : Sl) (w : World) =>
                                                                                              ∀ (b_3 : Nat) (w1 : World),
                                                                                                Upd [] [b_3] w w1 →
                                                                                                  (World.heap w1)[b_3]? =
                                                                                                      some (Obj.cells { toList := SV.cells (SV.struct [SV.slice r]) } 22) →
                                                                                                    Ret Tryd.prog 64
                                                                                                      [SV.slice { ptr := some { block := b_3, off := 0 }, len := 1, cap := 1 }] w1
                                                                                                      fun (r_1 : SV) (w1 : World) =>
                                                                                                      ∃ (n : Int),
                                                                                                        r_1 = SV.int IntKind.i64 n ∧
                                                                                                          Need (decide (10 < (↑r.2 : Int)) && Option.isSome r.1)
                                                                                                            (Store w1 (Sl.at r 1 10)
                                                                                                              (SV.cells (SV.int IntKind.u8 (wr IntKind.u8 (gshr IntKind.i64 n 8)))) []
                                                                                                              fun (w1 : World) =>
                                                                                                              Need (decide (11 < (↑r.2 : Int)) && Option.isSome r.1)
                                                                                                                (Store w1 (Sl.at r 1 11)
                                                                                                                  (SV.cells (SV.int IntKind.u8 (wr IntKind.u8 n))) []
                                                                                                                  fun (w1 : World) =>
                                                                                                                  ∃ (s : Sl),
                                                                                                                    World.cell? w1 (Addr.add { block := b, off := 0 } 42) =
                                                                                                                        some (Sl.val s) ∧
                                                                                                                      Vc.Append 5 1 1 r s [] w1 fun (r : Sl) (w : World) =>
                                                                                                                        R (SV.tuple [SV.slice r, SV.int IntKind.i64 0]) w)))) ∧
                                                        Ret Tryd.prog 63 [SV.bool h_3] w1_3 fun (r : SV) (w1 : World) =>
                                                          ∃ (n_1 : Int),
                                                            r = SV.int IntKind.i64 n_1 ∧
                                                              Keeps [b] w1_3 w1 ∧
                                                                Upd [] [] w1_2 w1 ∧
                                                                  (Upd [] [] w1_2 w1 ∧
                                                                      ∀ (b_2 : Nat) (w1_4 : World),
                                                                        Upd [] [b_2] w1 w1_4 →
                                                                          (World.heap w1_4)[b_2]? =
                                                                              some
                                                                                (Obj.cells
                                                                                  {
                                                                                    toList :=
                                                                                      SV.cells
                                                                                        (SV.struct
                                                                                          [SV.int IntKind.i64 4,
                                                                                            SV.int IntKind.i64 (wr IntKind.i64 (Int.tdiv (wr IntKind.i64 (20 + (↑s.2 : Int))) 4)),
                                                                                            SV.int IntKind.i64 h_0,
                                                                                            SV.int IntKind.i64
                                                                                              (wr IntKind.i64 (wr IntKind.i64 (20 + (↑s.2 : Int)) + (↑h_10.2 : Int))),
                                                                                            SV.int IntKind.i64 h_1, SV.int IntKind.i64 0, SV.int IntKind.i64 n,
                                                                                            SV.int IntKind.i64 n_1, SV.int IntKind.i64 (wr IntKind.i64 (Int.tdiv h_4 8)),
                                                                                            SV.int IntKind.i64 h_5, SV.int IntKind.i64 h_6, SV.int IntKind.i64 0]) }
                                                                                  3) →
                                                                            Ret Tryd.prog 62
                                                                              [SV.slice (Sl.sub { ptr := some { block := b_1, off := 0 }, len := 12, cap := 12 } 1 0 12 12),
                                                                                SV.slice { ptr := some { block := b_2, off := 0 }, len := 12, cap := 12 }]
                                                                              w1_4 fun (r : SV) (w1 : World) =>
                                                                              ∃ (s_1 : Sl),
                                                                                ∃ (n : Int),
                                                                                  r = SV.tuple [SV.slice s_1, SV.int IntKind.i64 n] ∧
                                                                                    Keeps [b] w1_4 w1 ∧
                                                                                      Br (n != 0)
                                                                                        (R (SV.tuple [SV.slice { ptr := none, len := 0, cap := 0 }, SV.int IntKind.i64 n]) w1)
                                                                                        ((World.heap w1)[b]? =
                                                                                            some
                                                                                              (Obj.cells
                                                                                                {
                                                                                                  toList :=
                                                                                                    SV.cells
                                                                                                      (SV.struct
                                                                                                        [SV.int IntKind.i64 h_0, SV.int IntKind.i64 h_1, SV.bool h_2, SV.bool h_3,
                                                                                                          SV.int IntKind.i64 h_4, SV.int IntKind.i64 h_5, SV.int IntKind.i64 h_6,
                                                                                                          SV.struct [SV.int IntKind.i64 h_7_0, SV.arr IntKind.u8 16 h_7_1],
                                                                                                          SV.struct [SV.int IntKind.i64 h_8_0, SV.arr IntKind.u8 16 h_8_1],
                                                                                                          SV.slice h_9, SV.slice h_10]) }
                                                                                                30) →
                                                                                          Vc.Append 5 1 1 s_1
                                                                                            (Sl.sub { ptr := some { block := b, off := 8 }, len := 16, cap := 16 } 1 0 4 16) [] w1
                                                                                            fun (r : Sl) (w : World) =>
                                                                                            Vc.Append 5 1 1 r
                                                                                              (Sl.sub
                                                                                                { ptr := some (Addr.add (Addr.add { block := b, off := 0 } 24) 1), len := 16,
                                                                                                  cap := 16 }
                                                                                                1 0 4 16)
                                                                                              [] w fun (r : Sl) (w : World) =>
                                                                                              Vc.Append 5 1 1 r s [] w fun (r : Sl) (w : World) =>
                                                                                                ∀ (b_3 : Nat) (w1 : World),
                                                                                                  Upd [] [b_3] w w1 →
                                                                                                    (World.heap w1)[b_3]? =
                                                                                                        some (Obj.cells { toList := SV.cells (SV.struct [SV.slice r]) } 22) →
                                                                                                      Ret Tryd.prog 64
                                                                                                        [SV.slice { ptr := some { block := b_3, off := 0 }, len := 1, cap := 1 }] w1
                                                                                                        fun (r_1 : SV) (w1 : World) =>
                                                                                                        ∃ (n : Int),
                                                                                                          r_1 = SV.int IntKind.i64 n ∧
                                                                                                            Need (decide (10 < (↑r.2 : Int)) && Option.isSome r.1)
                                                                                                              (Store w1 (Sl.at r 1 10)
                                                                                                                (SV.cells (SV.int IntKind.u8 (wr IntKind.u8 (gshr IntKind.i64 n 8))))
                                                                                                                [] fun (w1 : World) =>
                                                                                                                Need (decide (11 < (↑r.2 : Int)) && Option.isSome r.1)
                                                                                                                  (Store w1 (Sl.at r 1 11)
                                                                                                                    (SV.cells (SV.int IntKind.u8 (wr IntKind.u8 n))) []
                                                                                                                    fun (w1 : World) =>
                                                                                                                    ∃ (s : Sl),
                                                                                                                      World.cell? w1 (Addr.add { block := b, off := 0 } 42) =
                                                                                                                          some (Sl.val s) ∧
                                                                                                                        Vc.Append 5 1 1 r s [] w1 fun (r : Sl) (w : World) =>
                                                                                                                          R (SV.tuple [SV.slice r, SV.int IntKind.i64 0]) w)))) ∧
                                                                    ∀ (b_2 : Nat) (w1_4 : World),
                                                                      Upd [] [b_2] w1 w1_4 →
                                                                        (World.heap w1_4)[b_2]? =
                                                                            some
                                                                              (Obj.cells
                                                                                {
                                                                                  toList :=
                                                                                    SV.cells
                                                                                      (SV.struct
                                                                                        [SV.int IntKind.i64 4,
                                                                                          SV.int IntKind.i64 (wr IntKind.i64 (Int.tdiv (wr IntKind.i64 (20 + (↑s.2 : Int))) 4)),
                                                                                          SV.int IntKind.i64 h_0,
                                                                                          SV.int IntKind.i64 (wr IntKind.i64 (wr IntKind.i64 (20 + (↑s.2 : Int)) + (↑h_10.2 : Int))),
                                                                                          SV.int IntKind.i64 h_1, SV.int IntKind.i64 0, SV.int IntKind.i64 n, SV.int IntKind.i64 n_1,
                                                                                          SV.int IntKind.i64 (wr IntKind.i64 (Int.tdiv h_4 8)), SV.int IntKind.i64 h_5,
                                                                                          SV.int IntKind.i64 h_6, SV.int IntKind.i64 0]) }
                                                                                3) →
                                                                          Upd [] [] w1_2 w1_4 ∧
                                                                            Ret Tryd.prog 62
                                                                              [SV.slice (Sl.sub { ptr := some { block := b_1, off := 0 }, len := 12, cap := 12 } 1 0 12 12),
                                                                                SV.slice { ptr := some { block := b_2, off := 0 }, len := 12, cap := 12 }]
                                                                              w1_4 fun (r : SV) (w1 : World) =>
                                                                              ∃ (s_1 : Sl),
                                                                                ∃ (n : Int),
                                                                                  r = SV.tuple [SV.slice s_1, SV.int IntKind.i64 n] ∧
                                                                                    Keeps [b] w1_4 w1 ∧
                                                                                      Br (n != 0)
                                                                                        (R (SV.tuple [SV.slice { ptr := none, len := 0, cap := 0 }, SV.int IntKind.i64 n]) w1)
                                                                                        ((World.heap w1)[b]? =
                                                                                            some
                                                                                              (Obj.cells
                                                                                                {
                                                                                                  toList :=
                                                                                                    SV.cells
                                                                                                      (SV.struct
                                                                                                        [SV.int IntKind.i64 h_0, SV.int IntKind.i64 h_1, SV.bool h_2, SV.bool h_3,
                                                                                                          SV.int IntKind.i64 h_4, SV.int IntKind.i64 h_5, SV.int IntKind.i64 h_6,
                                                                                                          SV.struct [SV.int IntKind.i64 h_7_0, SV.arr IntKind.u8 16 h_7_1],
                                                                                                          SV.struct [SV.int IntKind.i64 h_8_0, SV.arr IntKind.u8 16 h_8_1],
                                                                                                          SV.slice h_9, SV.slice h_10]) }
                                                                                                30) →
                                                                                          Vc.Append 5 1 1 s_1
                                                                                            (Sl.sub { ptr := some { block := b, off := 8 }, len := 16, cap := 16 } 1 0 4 16) [] w1
                                                                                            fun (r : Sl) (w : World) =>
                                                                                            Vc.Append 5 1 1 r
                                                                                              (Sl.sub
                                                                                                { ptr := some (Addr.add (Addr.add { block := b, off := 0 } 24) 1), len := 16,
                                                                                                  cap := 16 }
                                                                                                1 0 4 16)
                                                                                              [] w fun (r : Sl) (w : World) =>
                                                                                              Vc.Append 5 1 1 r s [] w fun (r : Sl) (w : World) =>
                                                                                                ∀ (b_3 : Nat) (w1 : World),
                                                                                                  Upd [] [b_3] w w1 →
                                                                                                    (World.heap w1)[b_3]? =
                                                                                                        some (Obj.cells { toList := SV.cells (SV.struct [SV.slice r]) } 22) →
                                                                                                      Ret Tryd.prog 64
                                                                                                        [SV.slice { ptr := some { block := b_3, off := 0 }, len := 1, cap := 1 }] w1
                                                                                                        fun (r_1 : SV) (w1 : World) =>
                                                                                                        ∃ (n : Int),
                                                                                                          r_1 = SV.int IntKind.i64 n ∧
                                                                                                            Need (decide (10 < (↑r.2 : Int)) && Option.isSome r.1)
                                                                                                              (Store w1 (Sl.at r 1 10)
                                                                                                                (SV.cells (SV.int IntKind.u8 (wr IntKind.u8 (gshr IntKind.i64 n 8))))
                                                                                                                [] fun (w1 : World) =>
                                                                                                                Need (decide (11 < (↑r.2 : Int)) && Option.isSome r.1)
                                                                                                                  (Store w1 (Sl.at r 1 11)
                                                                                                                    (SV.cells (SV.int IntKind.u8 (wr IntKind.u8 n))) []
                                                                                                                    fun (w1 : World) =>
                                                                                                                    ∃ (s : Sl),
                                                                                                                      World.cell? w1 (Addr.add { block := b, off := 0 } 42) =
                                                                                                                          some (Sl.val s) ∧
                                                                                                                        Vc.Append 5 1 1 r s [] w1 fun (r : Sl) (w : World) =>
                                                                                                                          R (SV.tuple [SV.slice r, SV.int IntKind.i64 0]) w))))
theorem f25_of (h_0 : Int) (h_1 : Int) (h_2 : Bool) (h_3 : Bool) (h_4 : Int) (h_5 : Int) (h_6 : Int) (h_7_0 : Int) (h_7_1 : Nat → Int) (h_8_0 : Int) (h_8_1 : Nat → Int) (h_9 : Sl) (h_10 : Sl) (w : World) (R : SV → World → Prop) (h : vc25 h_0 h_1 h_2 h_3 h_4 h_5 h_6 h_7_0 h_7_1 h_8_0 h_8_1 h_9 h_10 w R) : Ret Tryd.prog 25 [.struct [.int .i64 h_0, .int .i64 h_1, .bool h_2, .bool h_3, .int .i64 h_4, .int .i64 h_5, .int .i64 h_6, .struct [.int .i64 h_7_0, .arr .u8 16 h_7_1], .struct [.int .i64 h_8_0, .arr .u8 16 h_8_1], .slice h_9, .slice h_10]] w R :=
  have e : vc25 h_0 h_1 h_2 h_3 h_4 h_5 h_6 h_7_0 h_7_1 h_8_0 h_8_1 h_9 h_10 w R = fnVC X Tryd.f25 a25 [.struct [.int .i64 h_0, .int .i64 h_1, .bool h_2, .bool h_3, .int .i64 h_4, .int .i64 h_5, .int .i64 h_6, .struct [.int .i64 h_7_0, .arr .u8 16 h_7_1], .struct [.int .i64 h_8_0, .arr .u8 16 h_8_1], .slice h_9, .slice h_10]] w R := by kernel_rfl
  fnVC_sound X_ok (n := a25) (e ▸ h) (by kernel_rfl) (by kernel_rfl) rfl rfl

def vc43 (b : Sl) (w : World) (R : SV → World → Prop) : Prop :=
  Ret Tryd.prog 20 [SV.slice b] w fun (r : SV) (w1 : World) =>
    ∃ (n : Int),
      ∃ (n_1 : Int),
        ∃ (b_1 : Bool),
          ∃ (b_2 : Bool),
            ∃ (n_2 : Int),
              ∃ (n_3 : Int),
                ∃ (n_4 : Int),
                  ∃ (n_5 : Int),
                    ∃ (f : Nat → Int),
                      ∃ (n_6 : Int),
                        ∃ (f_1 : Nat → Int),
                          ∃ (s : Sl),
                            ∃ (s_1 : Sl),
                              ∃ (n_7 : Int),
                                r =
                                    SV.tuple
                                      [SV.struct
                                          [SV.int IntKind.i64 n, SV.int IntKind.i64 n_1, SV.bool b_1, SV.bool b_2, SV.int IntKind.i64 n_2, SV.int IntKind.i64 n_3,
                                            SV.int IntKind.i64 n_4, SV.struct [SV.int IntKind.i64 n_5, SV.arr IntKind.u8 16 f],
                                            SV.struct [SV.int IntKind.i64 n_6, SV.arr IntKind.u8 16 f_1], SV.slice s, SV.slice s_1],
                                        SV.int IntKind.i64 n_7] ∧
                                  ∀ (b_3 : Nat),
                                    Br (n_7 != 0) (∀ (w1_1 : World), Upd [] [b_3] w1 w1_1 → R (SV.bool false) w1_1)
                                      (∀ (w1_1 : World),
                                        Upd [] [b_3] w1 w1_1 →
                                          Ret Tryd.prog 25
                                            [SV.struct
                                                [SV.int IntKind.i64 n, SV.int IntKind.i64 n_1, SV.bool b_1, SV.bool b_2, SV.int IntKind.i64 n_2, SV.int IntKind.i64 n_3,
                                                  SV.int IntKind.i64 n_4, SV.struct [SV.int IntKind.i64 n_5, SV.arr IntKind.u8 16 f],
                                                  SV.struct [SV.int IntKind.i64 n_6, SV.arr IntKind.u8 16 f_1], SV.slice s, SV.slice s_1]]
                                            w1_1 fun (r : SV) (w1 : World) =>
                                            ∃ (s : Sl),
                                              ∃ (n : Int),
                                                r = SV.tuple [SV.slice s, SV.int IntKind.i64 n] ∧
                                                  Keeps [b_3] w1_1 w1 ∧
                                                    Br (n == 0)
                                                      (Ret Tryd.prog 77 [SV.slice b, SV.slice s] w1 fun (r : SV) (w1_2 : World) =>
                                                        ∃ (b : Bool), r = SV.bool b ∧ Keeps [b_3] w1 w1_2 ∧ R (SV.bool b) w1_2)
                                                      (R (SV.bool false) w1))
theorem f43_of (b : Sl) (w : World) (R : SV → World → Prop) (h : vc43 b w R) : Ret Tryd.prog 43 [.slice b] w R :=
  have e : vc43 b w R = fnVC X Tryd.f43 a43 [.slice b] w R := by kernel_rfl
  fnVC_sound X_ok (n := a43) (e ▸ h) (by kernel_rfl) (by kernel_rfl) rfl rfl

def vc46 (b : Sl) (w : World) (R : SV → World → Prop) : Prop :=
  ∀ (b_1 : Nat) (w1 : World),
    Upd [] [b_1] w w1 →
      Ret Tryd.prog 20 [SV.slice b] w1 fun (r : SV) (w1_1 : World) =>
        ∃ (n : Int),
          ∃ (n_1 : Int),
            ∃ (b_2 : Bool),
              ∃ (b_3 : Bool),
                ∃ (n_2 : Int),
                  ∃ (n_3 : Int),
                    ∃ (n_4 : Int),
                      ∃ (n_5 : Int),
                        ∃ (f : Nat → Int),
                          ∃ (n_6 : Int),
                            ∃ (f_1 : Nat → Int),
                              ∃ (s : Sl),
                                ∃ (s_1 : Sl),
                                  ∃ (n_7 : Int),
                                    r =
                                        SV.tuple
                                          [SV.struct
                                              [SV.int IntKind.i64 n, SV.int IntKind.i64 n_1, SV.bool b_2, SV.bool b_3, SV.int IntKind.i64 n_2, SV.int IntKind.i64 n_3,
                                                SV.int IntKind.i64 n_4, SV.struct [SV.int IntKind.i64 n_5, SV.arr IntKind.u8 16 f],
                                                SV.struct [SV.int IntKind.i64 n_6, SV.arr IntKind.u8 16 f_1], SV.slice s, SV.slice s_1],
                                            SV.int IntKind.i64 n_7] ∧
                                      Keeps [b_1] w1 w1_1 ∧
                                        ∀ (b_4 : Nat),
                                          Br (n_7 != 0) (∀ (w1 : World), Upd [] [b_4] w1_1 w1 → R (SV.int IntKind.i64 n_7) w1)
                                            (Need (decide (8 < (↑b.2 : Int)) && Option.isSome b.1)
                                              (∃ (n : Int),
                                                World.cell? w1_1 (Sl.at b 1 8) = some (Value.int IntKind.u8 n) ∧
                                                  Br (decide (n < 2)) (∀ (w1 : World), Upd [] [b_4] w1_1 w1 → R (SV.int IntKind.i64 67) w1)
                                                    (∀ (w1 : World),
                                                      Upd [] [b_4] w1_1 w1 →
                                                        (World.heap w1)[b_1]? = some (Obj.cells { toList := SV.cells (SV.slice b) } 22) →
                                                          Off b_1 [b_4] →
                                                            Ret Tryd.prog 81 [SV.int IntKind.i64 8, SV.ptr (some { block := b_1, off := 0 })] w1 fun (r : SV) (w1_2 : World) =>
                                                              ∃ (n : Int),
                                                                r = SV.int IntKind.i64 n ∧
                                                                  Keeps [b_4] w1 w1_2 ∧
                                                                    Ret Tryd.prog 81 [SV.int IntKind.i64 10, SV.ptr (some { block := b_1, off := 0 })] w1_2
                                                                      fun (r : SV) (w1 : World) =>
                                                                      ∃ (n_8 : Int),
                                                                        r = SV.int IntKind.i64 n_8 ∧
                                                                          Keeps [b_4] w1_2 w1 ∧
                                                                            Ret Tryd.prog 82
                                                                              [SV.int IntKind.i64 n_8, SV.int IntKind.i64 n, SV.int IntKind.i64 (wr IntKind.i64 (n - 256))] w1
                                                                              fun (r : SV) (w1_3 : World) =>
                                                                              ∃ (n : Int),
                                                                                ∃ (n_9 : Int),
                                                                                  r = SV.tuple [SV.int IntKind.i64 n, SV.int IntKind.i64 n_9] ∧
                                                                                    Keeps [b_4] w1 w1_3 ∧
                                                                                      Br (n_9 != 0) (R (SV.int IntKind.i64 n_9) w1_3)
                                                                                        (∃ (s : Sl),
                                                                                          World.cell? w1_3 { block := b_1, off := 0 } = some (Sl.val s) ∧
                                                                                            Need (decide (8 < (↑s.2 : Int)) && Option.isSome s.1)
                                                                                              (∃ (n_10 : Int),
                                                                                                World.cell? w1_3 (Sl.at s 1 8) = some (Value.int IntKind.u8 n_10) ∧
                                                                                                  Need (decide (8 < (↑s.2 : Int)) && Option.isSome s.1)
                                                                                                    (Store w1_3 (Sl.at s 1 8)
                                                                                                      (SV.cells (SV.int IntKind.u8 (wr IntKind.u8 (n_10 - 1)))) [b_4]
                                                                                                      fun (w1 : World) =>
                                                                                                      ∃ (bs : List Nat),
                                                                                                        (∀ (b : Nat), b ∈ bs → b < List.length (World.heap w1).1) ∧
                                                                                                          Addr.block { block := b_1, off := 0 } ∈ bs ∧
                                                                                                            ∃ (s : Sl),
                                                                                                              World.cell? w1 { block := b_1, off := 0 } = some (Sl.val s) ∧
                                                                                                                Addr.block { block := b_1, off := 0 } ∈ bs ∧
                                                                                                                  ∃ (s_2 : Sl),
                                                                                                                    World.cell? w1 { block := b_1, off := 0 } = some (Sl.val s_2) ∧
                                                                                                                      Need (decide (10 < (↑s.2 : Int)) && Option.isSome s.1)
                                                                                                                        (∀ (w1_4 : World),
                                                                                                                          Upd [] [] w1 w1_4 →
                                                                                                                            Store w1_4 (Sl.at s 1 10)
                                                                                                                              (SV.cells
                                                                                                                                (SV.int IntKind.u8
                                                                                                                                  (wr IntKind.u8 (gshr IntKind.i64 n 8))))
                                                                                                                              [b_4] fun (w1_5 : World) =>
                                                                                                                              Kept bs w1 w1_5 ∧
                                                                                                                                Need
                                                                                                                                  (decide (11 < (↑s_2.2 : Int)) &&
                                                                                                                                    Option.isSome s_2.1)
                                                                                                                                  (Store w1_5 (Sl.at s_2 1 11)
                                                                                                                                    (SV.cells (SV.int IntKind.u8 (wr IntKind.u8 n)))
                                                                                                                                    [b_4] fun (w1 : World) =>
                                                                                                                                    R (SV.int IntKind.i64 0) w1))))))))
theorem f46_of (b : Sl) (w : World) (R : SV → World → Prop) (h : vc46 b w R) : Ret Tryd.prog 46 [.slice b] w R :=
  have e : vc46 b w R = fnVC X Tryd.f46 a46 [.slice b] w R := by kernel_rfl
  fnVC_sound X_ok (n := a46) (e ▸ h) (by kernel_rfl) (by kernel_rfl) rfl rfl

def vc81 (i : Int) (c0 : Option Addr) (w : World) (R : SV → World → Prop) : Prop :=
  deref c0 fun (a : Addr) =>
    ∃ (s : Sl),
      World.cell? w a = some (Sl.val s) ∧
        Need (decide (0 ≤ i) && decide (i < (↑s.2 : Int)) && Option.isSome s.1)
          (∃ (n : Int),
            World.cell? w (Sl.at s 1 (Int.toNat i)) = some (Value.int IntKind.u8 n) ∧
              deref c0 fun (a : Addr) =>
                ∃ (s : Sl),
                  World.cell? w a = some (Sl.val s) ∧
                    Need (decide (0 ≤ wr IntKind.i64 (i + 1)) && decide (wr IntKind.i64 (i + 1) < (↑s.2 : Int)) && Option.isSome s.1)
                      (∃ (n_1 : Int),
                        World.cell? w (Sl.at s 1 (Int.toNat (wr IntKind.i64 (i + 1)))) = some (Value.int IntKind.u8 n_1) ∧
                          ∀ (w1 : World), Upd [] [] w w1 → R (SV.int IntKind.i64 (ior IntKind.i64 (gshl IntKind.i64 (wr IntKind.i64 n) 8) (wr IntKind.i64 n_1))) w1))
theorem f81_of (i : Int) (c0 : Option Addr) (w : World) (R : SV → World → Prop) (h : vc81 i c0 w R) : Ret Tryd.prog 81 [.int .i64 i, .ptr c0] w R :=
  have e : vc81 i c0 w R = fnVC X Tryd.f81 a81 [.int .i64 i, .ptr c0] w R := by kernel_rfl
  fnVC_sound X_ok (n := a81) (e ▸ h) (by kernel_rfl) (by kernel_rfl) rfl rfl

end Go.Vc.S6
end

section
open Go Go.Vc Go.Vc.S6 Go.Proofs
set_option maxRecDepth 100000
set_option linter.unusedVariables false
namespace Go.Vc.S6
def vc23 (b : Sl) (w : World) (R : SV → World → Prop) : Prop :=
  Vc.Append 5 1 1 { ptr := none, len := 0, cap := 0 } b [] w fun (r : Sl) (w : World) => R (SV.slice r) w
theorem f23_of (b : Sl) (w : World) (R : SV → World → Prop) (h : vc23 b w R) : Ret Tryd.prog 23 [.slice b] w R :=
  have e : vc23 b w R = fnVC X Tryd.f23 a23 [.slice b] w R := by kernel_rfl
  fnVC_sound X_ok (n := a23) (e ▸ h) (by kernel_rfl) (by kernel_rfl) rfl rfl

def vc24 (a : Sl) (b : Sl) (w : World) (R : SV → World → Prop) : Prop :=
  BytesStr w a fun (b_1 : ByteArray) => BytesStr w b fun (b : ByteArray) => R (SV.bool (b_1 == b)) w
theorem f24_of (a : Sl) (b : Sl) (w : World) (R : SV → World → Prop) (h : vc24 a b w R) : Ret Tryd.prog 24 [.slice a, .slice b] w R :=
  have e : vc24 a b w R = fnVC X Tryd.f24 a24 [.slice a, .slice b] w R := by kernel_rfl
  fnVC_sound X_ok (n := a24) (e ▸ h) (by kernel_rfl) (by kernel_rfl) rfl rfl

def vc51 (a : Sl) (b : Sl) (w : World) (R : SV → World → Prop) : Prop :=
  Br ((↑a.2 : Int) != (↑b.2 : Int)) (R (SV.bool false) w)
    (∃ (I : Int → World → Prop),
      ∃ (M : Int → World → Nat),
        I 0 w ∧
          ∀ (n : Int) (w1 : World),
            I n w1 →
              Br (decide (n < (↑a.2 : Int)))
                (∀ (J : World → Prop),
                  (∀ (w1_1 : World), I (wr IntKind.i64 (n + 1)) w1_1 ∧ M (wr IntKind.i64 (n + 1)) w1_1 < M n w1 → J w1_1) →
                    Need (decide (0 ≤ n) && decide (n < (↑a.2 : Int)) && Option.isSome a.1)
                      (∃ (s : Sl),
                        World.cell? w1 (Addr.add (Sl.at a 2 (Int.toNat n)) 1) = some (Sl.val s) ∧
                          Need (decide (0 ≤ n) && decide (n < (↑b.2 : Int)) && Option.isSome b.1)
                            (∃ (s_1 : Sl),
                              World.cell? w1 (Addr.add (Sl.at b 2 (Int.toNat n)) 1) = some (Sl.val s_1) ∧
                                ∀ (w1_1 : World),
                                  Upd [] [] w1 w1_1 →
                                    Ret Tryd.prog 24 [SV.slice s, SV.slice s_1] w1_1 fun (r : SV) (w1 : World) =>
                                      ∃ (b_1 : Bool),
                                        r = SV.bool b_1 ∧
                                          Need (decide (0 ≤ n) && decide (n < (↑a.2 : Int)) && Option.isSome a.1)
                                            (∃ (n_1 : Int),
                                              World.cell? w1 (Sl.at a 2 (Int.toNat n)) = some (Value.int IntKind.i64 n_1) ∧
                                                Need (decide (0 ≤ n) && decide (n < (↑b.2 : Int)) && Option.isSome b.1)
                                                  (∃ (n_2 : Int),
                                                    World.cell? w1 (Sl.at b 2 (Int.toNat n)) = some (Value.int IntKind.i64 n_2) ∧
                                                      Br (n_1 != n_2) (∀ (w1_2 : World), Upd [] [] w1 w1_2 → R (SV.bool false) w1_2)
                                                        (Br (!b_1) (∀ (w1_2 : World), Upd [] [] w1 w1_2 → R (SV.bool false) w1_2) (∀ (w1_2 : World), Upd [] [] w1 w1_2 → J w1_2)))))))
                (R (SV.bool true) w1))
theorem f51_of (a : Sl) (b : Sl) (w : World) (R : SV → World → Prop) (h : vc51 a b w R) : Ret Tryd.prog 51 [.slice a, .slice b] w R :=
  have e : vc51 a b w R = fnVC X Tryd.f51 a51 [.slice a, .slice b] w R := by kernel_rfl
  fnVC_sound X_ok (n := a51) (e ▸ h) (by kernel_rfl) (by kernel_rfl) rfl rfl

def vc65 (l : Sl) (w : World) (R : SV → World → Prop) : Prop :=
  ∃ (I : Sl → Int → World → Prop),
    ∃ (M : Sl → Int → World → Nat),
      I { ptr := none, len := 0, cap := 0 } 0 w ∧
        ∀ (s : Sl) (n : Int) (w1 : World),
          I s n w1 →
            Br (decide (n < (↑l.2 : Int)))
              (Need (decide (0 ≤ n) && decide (n < (↑l.2 : Int)) && Option.isSome l.1)
                (∃ (n_1 : Int),
                  World.cell? w1 (Sl.at l 2 (Int.toNat n)) = some (Value.int IntKind.i64 n_1) ∧
                    Need (decide (0 ≤ n) && decide (n < (↑l.2 : Int)) && Option.isSome l.1)
                      (∃ (s_1 : Sl),
                        World.cell? w1 (Addr.add (Sl.at l 2 (Int.toNat n)) 1) = some (Sl.val s_1) ∧
                          ∀ (w1_1 : World),
                            Upd [] [] w1 w1_1 →
                              Ret Tryd.prog 23 [SV.slice s_1] w1_1 fun (r : SV) (w1_2 : World) =>
                                ∃ (s_2 : Sl),
                                  r = SV.slice s_2 ∧
                                    Upd [] [] w1 w1_2 ∧
                                      ∀ (b : Nat) (w1_3 : World),
                                        Upd [] [b] w1_2 w1_3 →
                                          (World.heap w1_3)[b]? = some (Obj.cells { toList := SV.cells (SV.struct [SV.struct [SV.int IntKind.i64 n_1, SV.slice s_2]]) } 37) →
                                            Vc.Append 37 2 32 s { ptr := some { block := b, off := 0 }, len := 1, cap := 1 } [] w1_3 fun (r : Sl) (w : World) =>
                                              I r (wr IntKind.i64 (n + 1)) w ∧ M r (wr IntKind.i64 (n + 1)) w < M s n w1)))
              (R (SV.slice s) w1)
theorem f65_of (l : Sl) (w : World) (R : SV → World → Prop) (h : vc65 l w R) : Ret Tryd.prog 65 [.slice l] w R :=
  have e : vc65 l w R = fnVC X Tryd.f65 a65 [.slice l] w R := by kernel_rfl
  fnVC_sound X_ok (n := a65) (e ▸ h) (by kernel_rfl) (by kernel_rfl) rfl rfl

def vc26 (h_0 : Int) (h_1 : Int) (h_2 : Bool) (h_3 : Bool) (h_4 : Int) (h_5 : Int) (h_6 : Int) (h_7_0 : Int) (h_7_1 : Nat → Int) (h_8_0 : Int) (h_8_1 : Nat → Int) (h_9 : Sl) (h_10 : Sl) (w : World) (R : SV → World → Prop) : Prop :=
  ∀ (b b_1 : Nat) (w1 : World),
    Upd [] [b_1, b] w w1 →
      Ret Tryd.prog 65 [SV.slice h_9] w1 fun (r : SV) (w1_1 : World) =>
        ∃ (s : Sl),
          r = SV.slice s ∧
            Keeps [b, b_1] w1 w1_1 ∧
              ∀ (w1 : World),
                Upd [b] [] w1_1 w1 →
                  Ret Tryd.prog 23 [SV.slice h_10] w1 fun (r : SV) (w1_2 : World) =>
                    ∃ (s_1 : Sl),
                      r = SV.slice s_1 ∧
                        Keeps [b, b_1] w1 w1_2 ∧
                          ∀ (w1 : World),
                            Upd [b_1, b] [] w1_2 w1 →
                              R
                                (SV.struct
                                  [SV.int IntKind.i64 h_0, SV.int IntKind.i64 h_1, SV.bool h_2, SV.bool h_3, SV.int IntKind.i64 h_4, SV.int IntKind.i64 h_5, SV.int IntKind.i64 h_6,
                                    SV.struct [SV.int IntKind.i64 h_7_0, SV.arr IntKind.u8 16 h_7_1], SV.struct [SV.int IntKind.i64 h_8_0, SV.arr IntKind.u8 16 h_8_1], SV.slice s,
                                    SV.slice s_1])
                                w1
theorem f26_of (h_0 : Int) (h_1 : Int) (h_2 : Bool) (h_3 : Bool) (h_4 : Int) (h_5 : Int) (h_6 : Int) (h_7_0 : Int) (h_7_1 : Nat → Int) (h_8_0 : Int) (h_8_1 : Nat → Int) (h_9 : Sl) (h_10 : Sl) (w : World) (R : SV → World → Prop) (h : vc26 h_0 h_1 h_2 h_3 h_4 h_5 h_6 h_7_0 h_7_1 h_8_0 h_8_1 h_9 h_10 w R) : Ret Tryd.prog 26 [.struct [.int .i64 h_0, .int .i64 h_1, .bool h_2, .bool h_3, .int .i64 h_4, .int .i64 h_5, .int .i64 h_6, .struct [.int .i64 h_7_0, .arr .u8 16 h_7_1], .struct [.int .i64 h_8_0, .arr .u8 16 h_8_1], .slice h_9, .slice h_10]] w R :=
  have e : vc26 h_0 h_1 h_2 h_3 h_4 h_5 h_6 h_7_0 h_7_1 h_8_0 h_8_1 h_9 h_10 w R = fnVC X Tryd.f26 a26 [.struct [.int .i64 h_0, .int .i64 h_1, .bool h_2, .bool h_3, .int .i64 h_4, .int .i64 h_5, .int .i64 h_6, .struct [.int .i64 h_7_0, .arr .u8 16 h_7_1], .struct [.int .i64 h_8_0, .arr .u8 16 h_8_1], .slice h_9, .slice h_10]] w R := by kernel_rfl
  fnVC_sound X_ok (n := a26) (e ▸ h) (by kernel_rfl) (by kernel_rfl) rfl rfl

def vc27 (l : Sl) (w : World) (R : SV → World → Prop) : Prop :=
  ∃ (I : Sl → Int → World → Prop),
    ∃ (M : Sl → Int → World → Nat),
      I { ptr := none, len := 0, cap := 0 } 0 w ∧
        ∀ (s : Sl) (n : Int) (w1 : World),
          I s n w1 →
            Br (decide (n < (↑l.2 : Int)))
              (Need (decide (0 ≤ n) && decide (n < (↑l.2 : Int)) && Option.isSome l.1)
                (∃ (n_1 : Int),
                  World.cell? w1 (Sl.at l 2 (Int.toNat n)) = some (Value.int IntKind.i64 n_1) ∧
                    ∃ (s_1 : Sl),
                      World.cell? w1 (Addr.add (Sl.at l 2 (Int.toNat n)) 1) = some (Sl.val s_1) ∧
                        ∀ (b : Nat) (J : World → Prop),
                          (∀ (w1_1 : World),
                              (∀ (b_1 : Nat) (w1_2 : World),
                                  Upd [] [b_1] w1_1 w1_2 →
                                    (World.heap w1_2)[b_1]? =
                                        some
                                          (Obj.cells
                                            {
                                              toList :=
                                                SV.cells
                                                  (SV.struct [SV.int IntKind.u8 (wr IntKind.u8 n_1), SV.int IntKind.u8 (wr IntKind.u8 (wr IntKind.i64 (2 + (↑s_1.2 : Int))))]) }
                                            5) →
                                      Vc.Append 5 1 1 s { ptr := some { block := b_1, off := 0 }, len := 2, cap := 2 } [b] w1_2 fun (r : Sl) (w : World) =>
                                        Vc.Append 5 1 1 r s_1 [b] w fun (r : Sl) (w : World) => I r (wr IntKind.i64 (n + 1)) w ∧ M r (wr IntKind.i64 (n + 1)) w < M s n w1) →
                                J w1_1) →
                            Br (decide (n_1 < 2)) (∀ (w1_1 : World), Upd [] [b] w1 w1_1 → R (SV.tuple [SV.slice { ptr := none, len := 0, cap := 0 }, SV.int IntKind.i64 65]) w1_1)
                              (Br (decide (n_1 > 255))
                                (∀ (w1_1 : World), Upd [] [b] w1 w1_1 → R (SV.tuple [SV.slice { ptr := none, len := 0, cap := 0 }, SV.int IntKind.i64 65]) w1_1)
                                (Br (decide ((↑s_1.2 : Int) > 38))
                                  (∀ (w1_1 : World), Upd [] [b] w1 w1_1 → R (SV.tuple [SV.slice { ptr := none, len := 0, cap := 0 }, SV.int IntKind.i64 65]) w1_1)
                                  (Br (decide (wr IntKind.i64 (wr IntKind.i64 ((↑s.2 : Int) + 2) + (↑s_1.2 : Int)) > 40))
                                    (∀ (w1_1 : World), Upd [] [b] w1 w1_1 → R (SV.tuple [SV.slice { ptr := none, len := 0, cap := 0 }, SV.int IntKind.i64 65]) w1_1)
                                    (∀ (w1_1 : World),
                                      Upd [] [b] w1 w1_1 →
                                        some (SV.box b 37 (SV.struct [SV.int IntKind.i64 n_1, SV.slice s_1])) =
                                            some (SV.box b 37 (SV.struct [SV.int IntKind.i64 n_1, SV.slice s_1])) ∧
                                          J w1_1))))))
              (∃ (I : Sl → World → Prop),
                ∃ (M : Sl → World → Nat),
                  I s w1 ∧
                    ∀ (s : Sl) (w1 : World),
                      I s w1 →
                        Br (decide (Int.tmod (↑s.2 : Int) 4 > 0))
                          (∀ (b : Nat) (w1_1 : World),
                            Upd [] [b] w1 w1_1 →
                              (World.heap w1_1)[b]? = some (Obj.cells { toList := SV.cells (SV.struct [SV.int IntKind.u8 0]) } 5) →
                                Vc.Append 5 1 1 s { ptr := some { block := b, off := 0 }, len := 1, cap := 1 } [] w1_1 fun (r : Sl) (w : World) => I r w ∧ M r w < M s w1)
                          (R (SV.tuple [SV.slice s, SV.int IntKind.i64 0]) w1))
theorem f27_of (l : Sl) (w : World) (R : SV → World → Prop) (h : vc27 l w R) : Ret Tryd.prog 27 [.slice l] w R :=
  have e : vc27 l w R = fnVC X Tryd.f27 a27 [.slice l] w R := by kernel_rfl
  fnVC_sound X_ok (n := a27) (e ▸ h) (by kernel_rfl) (by kernel_rfl) rfl rfl

def vc35 (l : Sl) (w : World) (R : SV → World → Prop) : Prop :=
  ∃ (I : Sl → Int → World → Prop),
    ∃ (M : Sl → Int → World → Nat),
      I { ptr := none, len := 0, cap := 0 } 0 w ∧
        ∀ (s : Sl) (n : Int) (w1 : World),
          I s n w1 →
            Br (decide (n < (↑l.2 : Int)))
              (∀ (J : Sl → World → Prop),
                (∀ (s_1 : Sl) (w1_1 : World), I s_1 (wr IntKind.i64 (n + 1)) w1_1 ∧ M s_1 (wr IntKind.i64 (n + 1)) w1_1 < M s n w1 → J s_1 w1_1) →
                  Need (decide (0 ≤ n) && decide (n < (↑l.2 : Int)) && Option.isSome l.1)
                    (∃ (s_1 : Sl),
                      World.cell? w1 (Addr.add (Sl.at l 2 (Int.toNat n)) 1) = some (Sl.val s_1) ∧
                        ∀ (J_1 : World → Prop),
                          (∀ (w1 : World),
                              Need (decide (0 ≤ n) && decide (n < (↑l.2 : Int)) && Option.isSome l.1)
                                  (∃ (n_1 : Int),
                                    World.cell? w1 (Sl.at l 2 (Int.toNat n)) = some (Value.int IntKind.i64 n_1) ∧
                                      ∀ (b : Nat) (w1_1 : World),
                                        Upd [] [b] w1 w1_1 →
                                          (World.heap w1_1)[b]? =
                                              some
                                                (Obj.cells
                                                  {
                                                    toList :=
                                                      SV.cells
                                                        (SV.struct [SV.int IntKind.u8 (wr IntKind.u8 n_1), SV.int IntKind.u8 (wr IntKind.u8 (wr IntKind.i64 ((↑s_1.2 : Int) + 2)))]) }
                                                  5) →
                                            Vc.Append 5 1 1 s { ptr := some { block := b, off := 0 }, len := 2, cap := 2 } [] w1_1 fun (r : Sl) (w : World) =>
                                              Need (decide (0 ≤ n) && decide (n < (↑l.2 : Int)) && Option.isSome l.1)
                                                (∃ (s : Sl),
                                                  World.cell? w (Addr.add (Sl.at l 2 (Int.toNat n)) 1) = some (Sl.val s) ∧
                                                    Vc.Append 5 1 1 r s [] w fun (r : Sl) (w : World) => J r w)) →
                                J_1 w1) →
                            Need (decide (0 ≤ n) && decide (n < (↑l.2 : Int)) && Option.isSome l.1)
                              (∃ (n_1 : Int),
                                World.cell? w1 (Sl.at l 2 (Int.toNat n)) = some (Value.int IntKind.i64 n_1) ∧
                                  Br (decide (n_1 < 2)) (R (SV.tuple [SV.slice { ptr := none, len := 0, cap := 0 }, SV.int IntKind.i64 65]) w1)
                                    (Need (decide (0 ≤ n) && decide (n < (↑l.2 : Int)) && Option.isSome l.1)
                                      (∃ (n_2 : Int),
                                        World.cell? w1 (Sl.at l 2 (Int.toNat n)) = some (Value.int IntKind.i64 n_2) ∧
                                          Br (decide (n_2 > 255)) (R (SV.tuple [SV.slice { ptr := none, len := 0, cap := 0 }, SV.int IntKind.i64 65]) w1)
                                            (Br (decide ((↑s_1.2 : Int) > 38)) (R (SV.tuple [SV.slice { ptr := none, len := 0, cap := 0 }, SV.int IntKind.i64 65]) w1) (J_1 w1)))))))
              (∃ (I : Sl → World → Prop),
                ∃ (M : Sl → World → Nat),
                  I s w1 ∧
                    ∀ (s : Sl) (w1 : World),
                      I s w1 →
                        Br (Int.tmod (↑s.2 : Int) 4 != 0)
                          (∀ (b : Nat) (w1_1 : World),
                            Upd [] [b] w1 w1_1 →
                              (World.heap w1_1)[b]? = some (Obj.cells { toList := SV.cells (SV.struct [SV.int IntKind.u8 0]) } 5) →
                                Vc.Append 5 1 1 s { ptr := some { block := b, off := 0 }, len := 1, cap := 1 } [] w1_1 fun (r : Sl) (w : World) => I r w ∧ M r w < M s w1)
                          (Br (decide ((↑s.2 : Int) > 40)) (R (SV.tuple [SV.slice { ptr := none, len := 0, cap := 0 }, SV.int IntKind.i64 65]) w1)
                            (R (SV.tuple [SV.slice s, SV.int IntKind.i64 0]) w1)))
theorem f35_of (l : Sl) (w : World) (R : SV → World → Prop) (h : vc35 l w R) : Ret Tryd.prog 35 [.slice l] w R :=
  have e : vc35 l w R = fnVC X Tryd.f35 a35 [.slice l] w R := by kernel_rfl
  fnVC_sound X_ok (n := a35) (e ▸ h) (by kernel_rfl) (by kernel_rfl) rfl rfl

def vc49 (b : Sl) (w : World) (R : SV → World → Prop) : Prop :=
  Br (decide ((↑b.2 : Int) > 40)) (R (SV.tuple [SV.slice { ptr := none, len := 0, cap := 0 }, SV.int IntKind.i64 65]) w)
    (∃ (I : Sl → Int → World → Prop),
      ∃ (M : Sl → Int → World → Nat),
        I { ptr := none, len := 0, cap := 0 } 0 w ∧
          ∀ (s : Sl) (n : Int) (w1 : World),
            I s n w1 →
              Br (decide (n < (↑b.2 : Int)))
                (Need (decide (0 ≤ n) && decide (n < (↑b.2 : Int)) && Option.isSome b.1)
                  (∃ (n_1 : Int),
                    World.cell? w1 (Sl.at b 1 (Int.toNat n)) = some (Value.int IntKind.u8 n_1) ∧
                      Br (n_1 == 0) (R (SV.tuple [SV.slice s, SV.int IntKind.i64 0]) w1)
                        (Br (n_1 == 1) (I s (wr IntKind.i64 (n + 1)) w1 ∧ M s (wr IntKind.i64 (n + 1)) w1 < M s n w1)
                          (Br (wr IntKind.i64 (n + 1) == (↑b.2 : Int)) (R (SV.tuple [SV.slice { ptr := none, len := 0, cap := 0 }, SV.int IntKind.i64 65]) w1)
                            (Need (decide (0 ≤ wr IntKind.i64 (n + 1)) && decide (wr IntKind.i64 (n + 1) < (↑b.2 : Int)) && Option.isSome b.1)
                              (∃ (n_2 : Int),
                                World.cell? w1 (Sl.at b 1 (Int.toNat (wr IntKind.i64 (n + 1)))) = some (Value.int IntKind.u8 n_2) ∧
                                  ∀ (J : World → Prop),
                                    (∀ (w1_1 : World),
                                        Need (decide (0 ≤ n) && decide (n < (↑b.2 : Int)) && Option.isSome b.1)
                                            (∃ (n_3 : Int),
                                              World.cell? w1_1 (Sl.at b 1 (Int.toNat n)) = some (Value.int IntKind.u8 n_3) ∧
                                                Need
                                                  (decide (0 ≤ wr IntKind.i64 (n + wr IntKind.i64 n_2)) && decide (wr IntKind.i64 (n + wr IntKind.i64 n_2) ≤ (↑b.3 : Int)) &&
                                                      (decide (0 ≤ wr IntKind.i64 (n + wr IntKind.i64 n_2)) &&
                                                        decide (wr IntKind.i64 (n + wr IntKind.i64 n_2) ≤ (↑(Int.toNat (wr IntKind.i64 (n + wr IntKind.i64 n_2))) : Int))) &&
                                                    (decide (0 ≤ wr IntKind.i64 (n + 2)) &&
                                                      decide (wr IntKind.i64 (n + 2) ≤ (↑(Int.toNat (wr IntKind.i64 (n + wr IntKind.i64 n_2))) : Int))))
                                                  (∀ (b_1 : Nat) (w1_2 : World),
                                                    Upd [] [b_1] w1_1 w1_2 →
                                                      (World.heap w1_2)[b_1]? =
                                                          some
                                                            (Obj.cells
                                                              {
                                                                toList :=
                                                                  SV.cells
                                                                    (SV.struct
                                                                      [SV.struct
                                                                          [SV.int IntKind.i64 (wr IntKind.i64 n_3),
                                                                            SV.slice
                                                                              (Sl.sub b 1 (Int.toNat (wr IntKind.i64 (n + 2))) (Int.toNat (wr IntKind.i64 (n + wr IntKind.i64 n_2)))
                                                                                (Int.toNat (wr IntKind.i64 (n + wr IntKind.i64 n_2))))]]) }
                                                              37) →
                                                        Vc.Append 37 2 32 s { ptr := some { block := b_1, off := 0 }, len := 1, cap := 1 } [] w1_2 fun (r : Sl) (w : World) =>
                                                          I r (wr IntKind.i64 (n + wr IntKind.i64 n_2)) w ∧ M r (wr IntKind.i64 (n + wr IntKind.i64 n_2)) w < M s n w1)) →
                                          J w1_1) →
                                      Br (decide (wr IntKind.i64 n_2 < 2)) (R (SV.tuple [SV.slice { ptr := none, len := 0, cap := 0 }, SV.int IntKind.i64 65]) w1)
                                        (Br (decide (wr IntKind.i64 (n + wr IntKind.i64 n_2) > (↑b.2 : Int)))
                                          (R (SV.tuple [SV.slice { ptr := none, len := 0, cap := 0 }, SV.int IntKind.i64 65]) w1) (J w1))))))))
                (R (SV.tuple [SV.slice s, SV.int IntKind.i64 0]) w1))
theorem f49_of (b : Sl) (w : World) (R : SV → World → Prop) (h : vc49 b w R) : Ret Tryd.prog 49 [.slice b] w R :=
  have e : vc49 b w R = fnVC X Tryd.f49 a49 [.slice b] w R := by kernel_rfl
  fnVC_sound X_ok (n := a49) (e ▸ h) (by kernel_rfl) (by kernel_rfl) rfl rfl

def vc50 (b : Sl) (w : World) (R : SV → World → Prop) : Prop :=
  Br (decide ((↑b.2 : Int) > 40)) (R (SV.tuple [SV.slice { ptr := none, len := 0, cap := 0 }, SV.int IntKind.i64 65]) w)
    (∀ (J : Sl → World → Prop),
      (∀ (s : Sl) (w1 : World), R (SV.tuple [SV.slice s, SV.int IntKind.i64 0]) w1 → J s w1) →
        ∃ (I : Sl → Int → World → Prop),
          ∃ (M : Sl → Int → World → Nat),
            I { ptr := none, len := 0, cap := 0 } 0 w ∧
              ∀ (s : Sl) (n : Int) (w1 : World),
                I s n w1 →
                  ∀ (J_1 : World → Prop),
                    (∀ (w1_1 : World),
                        Need (decide (0 ≤ n) && decide (n < (↑b.2 : Int)) && Option.isSome b.1)
                            (∃ (n_1 : Int),
                              World.cell? w1_1 (Sl.at b 1 (Int.toNat n)) = some (Value.int IntKind.u8 n_1) ∧
                                Br (n_1 == 1) (I s (wr IntKind.i64 (n + 1)) w1_1 ∧ M s (wr IntKind.i64 (n + 1)) w1_1 < M s n w1)
                                  (∀ (J : World → Prop),
                                    (∀ (w1_2 : World),
                                        Need (decide (0 ≤ wr IntKind.i64 (n + 1)) && decide (wr IntKind.i64 (n + 1) < (↑b.2 : Int)) && Option.isSome b.1)
                                            (∃ (n_2 : Int),
                                              World.cell? w1_2 (Sl.at b 1 (Int.toNat (wr IntKind.i64 (n + 1)))) = some (Value.int IntKind.u8 n_2) ∧
                                                Need (decide (0 ≤ n) && decide (n < (↑b.2 : Int)) && Option.isSome b.1)
                                                  (∃ (n_3 : Int),
                                                    World.cell? w1_2 (Sl.at b 1 (Int.toNat n)) = some (Value.int IntKind.u8 n_3) ∧
                                                      Need
                                                        (decide (0 ≤ wr IntKind.i64 (n + wr IntKind.i64 n_2)) && decide (wr IntKind.i64 (n + wr IntKind.i64 n_2) ≤ (↑b.3 : Int)) &&
                                                          (decide (0 ≤ wr IntKind.i64 (n + 2)) &&
                                                            decide (wr IntKind.i64 (n + 2) ≤ (↑(Int.toNat (wr IntKind.i64 (n + wr IntKind.i64 n_2))) : Int))))
                                                        (∀ (w1_3 : World),
                                                          Upd [] [] w1_2 w1_3 →
                                                            Ret Tryd.prog 23
                                                              [SV.slice (Sl.sub b 1 (Int.toNat (wr IntKind.i64 (n + 2))) (Int.toNat (wr IntKind.i64 (n + wr IntKind.i64 n_2))) b.3)]
                                                              w1_3 fun (r : SV) (w1_4 : World) =>
                                                              ∃ (s_1 : Sl),
                                                                r = SV.slice s_1 ∧
                                                                  Upd [] [] w1_2 w1_4 ∧
                                                                    ∀ (b : Nat) (w1_5 : World),
                                                                      Upd [] [b] w1_4 w1_5 →
                                                                        (World.heap w1_5)[b]? =
                                                                            some
                                                                              (Obj.cells
                                                                                { toList := SV.cells (SV.struct [SV.struct [SV.int IntKind.i64 (wr IntKind.i64 n_3), SV.slice s_1]]) }
                                                                                37) →
                                                                          Vc.Append 37 2 32 s { ptr := some { block := b, off := 0 }, len := 1, cap := 1 } [] w1_5
                                                                            fun (r : Sl) (w : World) =>
                                                                            I r (wr IntKind.i64 (n + wr IntKind.i64 n_2)) w ∧
                                                                              M r (wr IntKind.i64 (n + wr IntKind.i64 n_2)) w < M s n w1))) →
                                          J w1_2) →
                                      Br (decide (wr IntKind.i64 (n + 1) ≥ (↑b.2 : Int))) (R (SV.tuple [SV.slice { ptr := none, len := 0, cap := 0 }, SV.int IntKind.i64 65]) w1_1)
                                        (Need (decide (0 ≤ wr IntKind.i64 (n + 1)) && decide (wr IntKind.i64 (n + 1) < (↑b.2 : Int)) && Option.isSome b.1)
                                          (∃ (n_2 : Int),
                                            World.cell? w1_1 (Sl.at b 1 (Int.toNat (wr IntKind.i64 (n + 1)))) = some (Value.int IntKind.u8 n_2) ∧
                                              Br (decide (n_2 < 2)) (R (SV.tuple [SV.slice { ptr := none, len := 0, cap := 0 }, SV.int IntKind.i64 65]) w1_1)
                                                (Need (decide (0 ≤ wr IntKind.i64 (n + 1)) && decide (wr IntKind.i64 (n + 1) < (↑b.2 : Int)) && Option.isSome b.1)
                                                  (∃ (n_3 : Int),
                                                    World.cell? w1_1 (Sl.at b 1 (Int.toNat (wr IntKind.i64 (n + 1)))) = some (Value.int IntKind.u8 n_3) ∧
                                                      Br (decide (wr IntKind.i64 (n + wr IntKind.i64 n_3) > (↑b.2 : Int)))
                                                        (R (SV.tuple [SV.slice { ptr := none, len := 0, cap := 0 }, SV.int IntKind.i64 65]) w1_1) (J w1_1))))))) →
                          J_1 w1_1) →
                      Br (decide (n < (↑b.2 : Int)))
                        (Need (decide (0 ≤ n) && decide (n < (↑b.2 : Int)) && Option.isSome b.1)
                          (∃ (n_1 : Int), World.cell? w1 (Sl.at b 1 (Int.toNat n)) = some (Value.int IntKind.u8 n_1) ∧ Br (n_1 != 0) (J_1 w1) (J s w1)))
                        (J s w1))
theorem f50_of (b : Sl) (w : World) (R : SV → World → Prop) (h : vc50 b w R) : Ret Tryd.prog 50 [.slice b] w R :=
  have e : vc50 b w R = fnVC X Tryd.f50 a50 [.slice b] w R := by kernel_rfl
  fnVC_sound X_ok (n := a50) (e ▸ h) (by kernel_rfl) (by kernel_rfl) rfl rfl

def vc19 (b : Sl) (w : World) (R : SV → World → Prop) : Prop :=
  Ret Tryd.prog 23 [SV.slice b] w fun (r : SV) (w1 : World) =>
    ∃ (s : Sl),
      r = SV.slice s ∧
        ∀ (b : Nat) (w1_1 : World),
          Upd [] [b] w1 w1_1 →
            (World.heap w1_1)[b]? = some (Obj.cells { toList := SV.cells (SV.struct [SV.int IntKind.u8 91, SV.int IntKind.u8 92, SV.int IntKind.u8 93]) } 5) →
              Vc.Append 5 1 1 s { ptr := some { block := b, off := 0 }, len := 3, cap := 3 } [] w1_1 fun (r : Sl) (w : World) => R (SV.slice r) w
theorem f19_of (b : Sl) (w : World) (R : SV → World → Prop) (h : vc19 b w R) : Ret Tryd.prog 19 [.slice b] w R :=
  have e : vc19 b w R = fnVC X Tryd.f19 a19 [.slice b] w R := by kernel_rfl
  fnVC_sound X_ok (n := a19) (e ▸ h) (by kernel_rfl) (by kernel_rfl) rfl rfl

def vc22 (p0 : Sl) (b : Sl) (w : World) (R : SV → World → Prop) : Prop :=
  Br ((↑p0.2 : Int) == wr IntKind.i64 ((↑b.2 : Int) + 3))
    (Need (decide (0 ≤ (↑b.2 : Int)) && decide ((↑b.2 : Int) ≤ (↑p0.3 : Int)))
      (Ret Tryd.prog 24 [SV.slice (Sl.sub p0 1 0 (Int.toNat (↑b.2 : Int)) p0.3), SV.slice b] w fun (r : SV) (w1 : World) =>
        ∃ (b_1 : Bool),
          r = SV.bool b_1 ∧
            Br b_1
              (Need (decide (0 ≤ (↑b.2 : Int)) && decide ((↑b.2 : Int) < (↑p0.2 : Int)) && Option.isSome p0.1)
                (∃ (n : Int),
                  World.cell? w1 (Sl.at p0 1 (Int.toNat (↑b.2 : Int))) = some (Value.int IntKind.u8 n) ∧
                    Br (n == 91)
                      (Need (decide (0 ≤ wr IntKind.i64 ((↑b.2 : Int) + 1)) && decide (wr IntKind.i64 ((↑b.2 : Int) + 1) < (↑p0.2 : Int)) && Option.isSome p0.1)
                        (∃ (n : Int),
                          World.cell? w1 (Sl.at p0 1 (Int.toNat (wr IntKind.i64 ((↑b.2 : Int) + 1)))) = some (Value.int IntKind.u8 n) ∧
                            Br (n == 92)
                              (Need (decide (0 ≤ wr IntKind.i64 ((↑b.2 : Int) + 2)) && decide (wr IntKind.i64 ((↑b.2 : Int) + 2) < (↑p0.2 : Int)) && Option.isSome p0.1)
                                (∃ (n : Int), World.cell? w1 (Sl.at p0 1 (Int.toNat (wr IntKind.i64 ((↑b.2 : Int) + 2)))) = some (Value.int IntKind.u8 n) ∧ R (SV.bool (n == 93)) w1))
                              (R (SV.bool false) w1)))
                      (R (SV.bool false) w1)))
              (R (SV.bool false) w1)))
    (R (SV.bool false) w)
theorem f22_of (p0 : Sl) (b : Sl) (w : World) (R : SV → World → Prop) (h : vc22 p0 b w R) : Ret Tryd.prog 22 [.slice p0, .slice b] w R :=
  have e : vc22 p0 b w R = fnVC X Tryd.f22 a22 [.slice p0, .slice b] w R := by kernel_rfl
  fnVC_sound X_ok (n := a22) (e ▸ h) (by kernel_rfl) (by kernel_rfl) rfl rfl

def vc29 (a_0 : Int) (a_1 : Int) (a_2 : Bool) (a_3 : Bool) (a_4 : Int) (a_5 : Int) (a_6 : Int) (a_7_0 : Int) (a_7_1 : Nat → Int) (a_8_0 : Int) (a_8_1 : Nat → Int) (a_9 : Sl) (a_10 : Sl) (b_0 : Int) (b_1 : Int) (b_2 : Bool) (b_3 : Bool) (b_4 : Int) (b_5 : Int) (b_6 : Int) (b_7_0 : Int) (b_7_1 : Nat → Int) (b_8_0 : Int) (b_8_1 : Nat → Int) (b_9 : Sl) (b_10 : Sl) (w : World) (R : SV → World → Prop) : Prop :=
  ∀ (b b_7 : Nat) (J : World → Prop),
    (∀ (w1 : World),
        (Ret Tryd.prog 51 [SV.slice a_9, SV.slice b_9] w1 fun (r : SV) (w1_1 : World) =>
            ∃ (b_8 : Bool),
              r = SV.bool b_8 ∧
                Keeps [b, b_7] w1 w1_1 ∧
                  Br b_8
                    (Ret Tryd.prog 24 [SV.slice a_10, SV.slice b_10] w1_1 fun (r : SV) (w1 : World) =>
                      ∃ (b_11 : Bool), r = SV.bool b_11 ∧ Keeps [b, b_7] w1_1 w1 ∧ R (SV.bool b_11) w1)
                    (R (SV.bool false) w1_1)) →
          J w1) →
      Br (a_0 != b_0) (∀ (w1 : World), Upd [] [b_7, b] w w1 → R (SV.bool false) w1)
        (Br (a_1 != b_1) (∀ (w1 : World), Upd [] [b_7, b] w w1 → R (SV.bool false) w1)
          (Br (!a_2 == b_2) (∀ (w1 : World), Upd [] [b_7, b] w w1 → R (SV.bool false) w1)
            (Br (!a_3 == b_3) (∀ (w1 : World), Upd [] [b_7, b] w w1 → R (SV.bool false) w1)
              (Br (a_4 != b_4) (∀ (w1 : World), Upd [] [b_7, b] w w1 → R (SV.bool false) w1)
                (Br (a_5 != b_5) (∀ (w1 : World), Upd [] [b_7, b] w w1 → R (SV.bool false) w1)
                  (Br (a_6 != b_6) (∀ (w1 : World), Upd [] [b_7, b] w w1 → R (SV.bool false) w1)
                    (Br (!(a_7_0 == b_7_0 && eqArr 16 a_7_1 b_7_1)) (∀ (w1 : World), Upd [] [b_7, b] w w1 → R (SV.bool false) w1)
                      (Br (!(a_8_0 == b_8_0 && eqArr 16 a_8_1 b_8_1)) (∀ (w1 : World), Upd [] [b_7, b] w w1 → R (SV.bool false) w1)
                        (∀ (w1 : World),
                          Upd [] [b_7, b] w w1 →
                            some
                                  (SV.box b 30
                                    (SV.struct
                                      [SV.int IntKind.i64 a_0, SV.int IntKind.i64 a_1, SV.bool a_2, SV.bool a_3, SV.int IntKind.i64 a_4, SV.int IntKind.i64 a_5,
                                        SV.int IntKind.i64 a_6, SV.struct [SV.int IntKind.i64 a_7_0, SV.arr IntKind.u8 16 a_7_1],
                                        SV.struct [SV.int IntKind.i64 a_8_0, SV.arr IntKind.u8 16 a_8_1], SV.slice a_9, SV.slice a_10])) =
                                some
                                  (SV.box b 30
                                    (SV.struct
                                      [SV.int IntKind.i64 a_0, SV.int IntKind.i64 a_1, SV.bool a_2, SV.bool a_3, SV.int IntKind.i64 a_4, SV.int IntKind.i64 a_5,
                                        SV.int IntKind.i64 a_6, SV.struct [SV.int IntKind.i64 a_7_0, SV.arr IntKind.u8 16 a_7_1],
                                        SV.struct [SV.int IntKind.i64 a_8_0, SV.arr IntKind.u8 16 a_8_1], SV.slice a_9, SV.slice a_10])) ∧
                              some
                                    (SV.box b_7 30
                                      (SV.struct
                                        [SV.int IntKind.i64 b_0, SV.int IntKind.i64 b_1, SV.bool b_2, SV.bool b_3, SV.int IntKind.i64 b_4, SV.int IntKind.i64 b_5,
                                          SV.int IntKind.i64 b_6, SV.struct [SV.int IntKind.i64 b_7_0, SV.arr IntKind.u8 16 b_7_1],
                                          SV.struct [SV.int IntKind.i64 b_8_0, SV.arr IntKind.u8 16 b_8_1], SV.slice b_9, SV.slice b_10])) =
                                  some
                                    (SV.box b_7 30
                                      (SV.struct
                                        [SV.int IntKind.i64 b_0, SV.int IntKind.i64 b_1, SV.bool b_2, SV.bool b_3, SV.int IntKind.i64 b_4, SV.int IntKind.i64 b_5,
                                          SV.int IntKind.i64 b_6, SV.struct [SV.int IntKind.i64 b_7_0, SV.arr IntKind.u8 16 b_7_1],
                                          SV.struct [SV.int IntKind.i64 b_8_0, SV.arr IntKind.u8 16 b_8_1], SV.slice b_9, SV.slice b_10])) ∧
                                J w1)))))))))
theorem f29_of (a_0 : Int) (a_1 : Int) (a_2 : Bool) (a_3 : Bool) (a_4 : Int) (a_5 : Int) (a_6 : Int) (a_7_0 : Int) (a_7_1 : Nat → Int) (a_8_0 : Int) (a_8_1 : Nat → Int) (a_9 : Sl) (a_10 : Sl) (b_0 : Int) (b_1 : Int) (b_2 : Bool) (b_3 : Bool) (b_4 : Int) (b_5 : Int) (b_6 : Int) (b_7_0 : Int) (b_7_1 : Nat → Int) (b_8_0 : Int) (b_8_1 : Nat → Int) (b_9 : Sl) (b_10 : Sl) (w : World) (R : SV → World → Prop) (h : vc29 a_0 a_1 a_2 a_3 a_4 a_5 a_6 a_7_0 a_7_1 a_8_0 a_8_1 a_9 a_10 b_0 b_1 b_2 b_3 b_4 b_5 b_6 b_7_0 b_7_1 b_8_0 b_8_1 b_9 b_10 w R) : Ret Tryd.prog 29 [.struct [.int .i64 a_0, .int .i64 a_1, .bool a_2, .bool a_3, .int .i64 a_4, .int .i64 a_5, .int .i64 a_6, .struct [.int .i64 a_7_0, .arr .u8 16 a_7_1], .struct [.int .i64 a_8_0, .arr .u8 16 a_8_1], .slice a_9, .slice a_10], .struct [.int .i64 b_0, .int .i64 b_1, .bool b_2, .bool b_3, .int .i64 b_4, .int .i64 b_5, .int .i64 b_6, .struct [.int .i64 b_7_0, .arr .u8 16 b_7_1], .struct [.int .i64 b_8_0, .arr .u8 16 b_8_1], .slice b_9, .slice b_10]] w R :=
  have e : vc29 a_0 a_1 a_2 a_3 a_4 a_5 a_6 a_7_0 a_7_1 a_8_0 a_8_1 a_9 a_10 b_0 b_1 b_2 b_3 b_4 b_5 b_6 b_7_0 b_7_1 b_8_0 b_8_1 b_9 b_10 w R = fnVC X Tryd.f29 a29 [.struct [.int .i64 a_0, .int .i64 a_1, .bool a_2, .bool a_3, .int .i64 a_4, .int .i64 a_5, .int .i64 a_6, .struct [.int .i64 a_7_0, .arr .u8 16 a_7_1], .struct [.int .i64 a_8_0, .arr .u8 16 a_8_1], .slice a_9, .slice a_10], .struct [.int .i64 b_0, .int .i64 b_1, .bool b_2, .bool b_3, .int .i64 b_4, .int .i64 b_5, .int .i64 b_6, .struct [.int .i64 b_7_0, .arr .u8 16 b_7_1], .struct [.int .i64 b_8_0, .arr .u8 16 b_8_1], .slice b_9, .slice b_10]] w R := by kernel_rfl
  fnVC_sound X_ok (n := a29) (e ▸ h) (by kernel_rfl) (by kernel_rfl) rfl rfl

end Go.Vc.S6
end

section
namespace Go.Vc
set_option linter.unusedVariables false
set_option linter.unusedSimpArgs false
set_option autoImplicit false

/-- a slice of slices of bytes -/
structure Parts (w : World) (s : Sl) (ls : List (List Int)) (ss : List Sl) : Prop where
  row : Sees cSl w s ss
  len : ss.length = ls.length
  each : ∀ i (h : i < ls.length), SeesB w (ss[i]'(by rw [len]; exact h)) ls[i]

section
variable {w w1 : World} {s : Sl} {ls : List (List Int)} {ss : List Sl}
theorem Parts.slen (h : Parts w s ls ss) : s.len = ls.length := by rw [h.row.len, h.len]
theorem Parts.nil (w : World) (p : Option Addr) (cap : Nat) : Parts w ⟨p, 0, cap⟩ [] [] := ⟨Sees.nil _ _ _ _, rfl, by simp⟩
theorem Parts.upd {m n : List Nat} (h : Parts w s ls ss) (u : Upd m n w w1) (h1 : ∀ b ∈ s.blk, b ∉ m) (h2 : ∀ x ∈ ss, ∀ b ∈ x.blk, b ∉ m) : Parts w1 s ls ss where
  row := h.row.upd u h1
  len := h.len
  each i hi := (h.each i hi).upd u (h2 _ (List.getElem_mem _))
theorem Parts.old {n : List Nat} (h : Parts w s ls ss) (u : Upd [] n w w1) : Parts w1 s ls ss := h.upd u (by simp) (by simp)
theorem Parts.get (h : Parts w s ls ss) {i : Int} (h0 : 0 ≤ i) (hi : i < ls.length) : ∃ (h1 : i.toNat < ss.length) (h2 : i.toNat < ls.length),
    w.cell? (s.at 1 i.toNat) = some (ss[i.toNat]).val ∧ SeesB w ss[i.toNat] ls[i.toNat] ∧ s.ptr.isSome = true := by
  have h2 : i.toNat < ls.length := by omega
  have h1 : i.toNat < ss.length := by rw [h.len]; exact h2
  refine ⟨h1, h2, ?_, h.each _ h2, h.row.isSome (by decide) (by omega)⟩
  have := h.row.elem h1 0 (by simp [cSl])
  rw [add_zero] at this
  exact this
end

theorem take_snoc {α : Type} {l : List α} {k : Nat} (h : k < l.length) : l.take (k + 1) = l.take k ++ [l[k]] := List.take_succ_eq_append_getElem h
theorem flat_snoc {α : Type} {ls : List (List α)} {k : Nat} (h : k < ls.length) : (ls.take (k + 1)).flatten = (ls.take k).flatten ++ ls[k] := by rw [take_snoc h, List.flatten_append]; simp
theorem flat_le {α : Type} (ls : List (List α)) (k : Nat) : (ls.take k).flatten.length ≤ ls.flatten.length := by
  have := congrArg List.length (List.take_append_drop k ls ▸ List.flatten_append (L₁ := ls.take k) (L₂ := ls.drop k))
  rw [List.length_append] at this
  have h2 : (List.take k ls ++ List.drop k ls).flatten.length = ls.flatten.length := by rw [List.take_append_drop]
  omega
theorem byt_flat {ls : List (List Int)} (h : ∀ l ∈ ls, Byt l) : Byt ls.flatten := fun x hx => by
  obtain ⟨l, hl, hx⟩ := List.mem_flatten.1 hx
  exact h l hl x hx
theorem byt_flat_take {ls : List (List Int)} (h : ∀ l ∈ ls, Byt l) (k : Nat) : Byt (ls.take k).flatten := byt_flat fun l hl => h l (List.mem_of_mem_take hl)
theorem bt_nat {l : List Int} {i : Nat} (h : i < l.length) : bt l (i : Int) = l[i] := by simp [bt, h]
theorem bt_int {l : List Int} {i : Int} (h0 : 0 ≤ i) (h : i.toNat < l.length) : bt l i = l[i.toNat] := by simp [bt, h]
/-- all of w's blocks but m's stand; what has been read of a slice stands -/
theorem needB {X : Prop} {w : World} {s : Sl} {l : List Int} (h : SeesB w s l) {i : Int} (h0 : 0 ≤ i) (h1 : i < l.length) (x : X) : Need (decide (0 ≤ i) && decide (i < (s.len : Int)) && s.ptr.isSome) X :=
  needIx h0 (by rw [h.len]; exact h1) (h.isSome (by decide) (by omega)) x
theorem needB' {X : Prop} {w : World} {s : Sl} {l : List Int} (h : SeesB w s l) {i : Int} (h0 : 0 ≤ i) (h1 : i < l.length) (x : X) : Need (decide (0 ≤ i) && decide (i < (l.length : Int)) && s.ptr.isSome) X :=
  needIx h0 h1 (h.isSome (by decide) (by omega)) x
theorem needP {X : Prop} {w : World} {s : Sl} {ls : List (List Int)} {ss : List Sl} (h : Parts w s ls ss) {i : Int} (h0 : 0 ≤ i) (h1 : i < ls.length) (x : X) : Need (decide (0 ≤ i) && decide (i < (s.len : Int)) && s.ptr.isSome) X :=
  needIx h0 (by rw [h.slen]; exact h1) (h.get h0 h1).2.2.2.2 x
/-- a row that was just made of bytes -/
theorem rowB {w : World} {b e n cap : Nat} {f : Nat × Nat} {cs : List Value} (h : w.heap[b]? = some (.cells cs.toArray e f)) (l : List Int) (hl : cs = cU8.cells l) (hn : n = l.length) : SeesB w ⟨some ⟨b, 0, none⟩, n, cap⟩ l := sees_row h l hl hn
def AllB (w : World) : List Sl → List (List Int) → Prop
  | [], [] => True
  | s :: r, l :: q => SeesB w s l ∧ AllB w r q
  | _, _ => False
theorem AllB.len {w : World} : ∀ {ss : List Sl} {ls : List (List Int)}, AllB w ss ls → ss.length = ls.length
  | [], [], _ => rfl
  | _ :: _, _ :: _, h => by simp [AllB.len h.2]
  | [], _ :: _, h => h.elim
  | _ :: _, [], h => h.elim
theorem AllB.get {w : World} : ∀ {ss : List Sl} {ls : List (List Int)} (h : AllB w ss ls) (i : Nat) (hi : i < ls.length), SeesB w (ss[i]'(by rw [h.len]; exact hi)) ls[i]
  | _ :: _, _ :: _, h, 0, _ => h.1
  | _ :: _, _ :: _, h, i + 1, hi => AllB.get h.2 i (by simpa using hi)
  | [], _ :: _, h, _, _ => h.elim
/-- a row that was just made of slices -/
theorem rowP {w : World} {b e n cap : Nat} {f : Nat × Nat} {cs : List Value} {ss : List Sl} {ls : List (List Int)} (h : w.heap[b]? = some (.cells cs.toArray e f)) (hl : cs = cSl.cells ss) (hn : n = ss.length) (ha : AllB w ss ls) :
    Parts w ⟨some ⟨b, 0, none⟩, n, cap⟩ ls ss := ⟨sees_row h ss hl hn, ha.len, ha.get⟩
end Go.Vc
end

section
namespace Go.Vc
set_option linter.unusedVariables false
set_option linter.unusedSimpArgs false
set_option autoImplicit false

/-! ### bytes out of a row, arrays -/
/-- bytes within a row -/
theorem rowMid {w : World} {b e n cap o : Nat} {f : Nat × Nat} {cs : List Value} (h : w.heap[b]? = some (.cells cs.toArray e f)) (pre post : List Value) (l : List Int) (hl : cs = pre ++ cU8.cells l ++ post) (ho : o = pre.length) (hn : n = l.length) :
    SeesB w ⟨some ⟨b, o, none⟩, n, cap⟩ l := by
  subst hl ho hn
  refine ⟨rfl, fun i hi => ?_⟩
  rw [add_none, cell_of_block h]
  simp [List.getElem?_append_right, List.getElem?_append_left, hi]
def arrL (n : Nat) (f : Nat → Int) : List Int := (List.range n).map f
theorem arrL_len (n : Nat) (f : Nat → Int) : (arrL n f).length = n := by simp [arrL]
theorem arrL_cells (k : Nat) (f : Nat → Int) : SV.cells (.arr .u8 k f) = cU8.cells (arrL k f) := by
  rw [Cod.cells_map1 (fun _ => rfl)]
  simp [SV.cells, arrL]
theorem arrL_bt {n : Nat} {f : Nat → Int} {i : Int} (h0 : 0 ≤ i) (h : i < n) : bt (arrL n f) i = f i.toNat := by
  rw [bt_int h0 (by rw [arrL_len]; omega)]
  simp [arrL]
theorem arrL_byt {n : Nat} {f : Nat → Int} (h : ∀ i, i < n → 0 ≤ f i ∧ f i < 256) : Byt (arrL n f) := by
  intro x hx
  obtain ⟨i, hi, rfl⟩ := List.mem_map.1 hx
  exact h i (List.mem_range.1 hi)
theorem eqArr_iff {n : Nat} {f g : Nat → Int} : eqArr n f g = true ↔ ∀ i, i < n → f i = g i := by
  unfold eqArr
  simp
theorem eqArr_dec {n : Nat} {f g : Nat → Int} : eqArr n f g = decide (arrL n f = arrL n g) := by
  rw [Bool.eq_iff_iff, eqArr_iff, decide_eq_true_iff]
  unfold arrL
  rw [List.map_inj_left]
  simp
theorem wr_nat1 {q : Nat} (h : q < 9223372036854775807) : wr .i64 ((q : Int) + 1) = ((q + 1 : Nat) : Int) := wr_succ h

/-! ### loops that many functions have -/
section
variable {w : World} {s : Sl} {l : List Int}
/-- all places are written with one value -/
theorem fill_loop {N : Nat} {bs : List Nat} {v : Int} {vs : List Value} {K : World → Prop} {C : (Int → World → Prop) → (Int → World → Nat) → Int → World → World → Prop}
    (h : SeesB w s l) (o : Own N 1 w s) (hl : l.length < 9223372036854775807) (hv : vs = [.int .u8 v]) (hbs : ∀ b ∈ s.blk, b ∉ bs)
    (hC : ∀ I M n w w', I (wr .i64 (n + 1)) w' → M (wr .i64 (n + 1)) w' < M n w → C I M n w w')
    (k : ∀ w1, Upd s.blk [] w w1 → SeesB w1 s (List.replicate l.length v) → Own N 1 w1 s → K w1) :
    ∃ (I : Int → World → Prop), ∃ (M : Int → World → Nat), I 0 w ∧ ∀ (n : Int) (w1 : World), I n w1 →
      Br (decide (n < (s.len : Int))) (Need (decide (0 ≤ n) && decide (n < (s.len : Int)) && s.ptr.isSome) (Store w1 (s.at 1 n.toNat) vs bs fun w2 => C I M n w1 w2)) (K w1) := by
  refine ⟨fun n w1 => Upd s.blk [] w w1 ∧ Own N 1 w1 s ∧ ∃ t : Nat, n = t ∧ t ≤ l.length ∧ SeesB w1 s (List.replicate t v ++ l.drop t), fun n _ => (l.length - n).toNat, ⟨(Upd.refl w).wide (by simp), o, 0, rfl, by omega, by simpa using h⟩, ?_⟩
  rintro n w1 ⟨u, o1, t, rfl, ht, hs⟩
  have hsl := h.len
  refine brd (fun hlt => ?_) (fun hge => ?_)
  · have hlen : (List.replicate t v ++ l.drop t).length = l.length := by simp; omega
    refine needB hs (by omega) (by omega) (own_set (c := cU8) (x := v) hs o1 (by decide) (by omega) hv hbs fun w2 hs2 o2 u2 => ?_)
    refine hC _ _ _ _ _ ⟨u.step u2 (fun b hb => .inr hb), o2, t + 1, wr_succ (by omega), by omega, ?_⟩ (by rw [wr_succ (by omega)]; (try dsimp only); omega)
    have e : (List.replicate t v ++ l.drop t).set t v = List.replicate (t + 1) v ++ l.drop (t + 1) := by
      rw [List.set_append_right _ _ (by simp), List.length_replicate, Nat.sub_self, List.drop_eq_getElem_cons (show t < l.length by omega), List.set_cons_zero, List.replicate_succ', List.append_assoc]
      rfl
    rw [Int.toNat_natCast] at hs2
    rwa [e] at hs2
  · have : t = l.length := by omega
    subst this
    exact k w1 u (by simpa using hs) o1
/-- are all places this value? (they are) -/
theorem all_loop {v : Int} {K F : World → Prop} {C : (Int → World → Prop) → (Int → World → Nat) → Int → World → Prop} {m : Nat}
    (h : SeesB w s l) (hl : l.length < 9223372036854775807) (hv : l = List.replicate m v)
    (hC : ∀ (I : Int → World → Prop) (M : Int → World → Nat) n w, I (wr .i64 (n + 1)) w → M (wr .i64 (n + 1)) w < M n w → C I M n w) (k : K w) :
    ∃ (I : Int → World → Prop), ∃ (M : Int → World → Nat), I 0 w ∧ ∀ (n : Int) (w1 : World), I n w1 →
      Br (decide (n < (s.len : Int))) (Need (decide (0 ≤ n) && decide (n < (s.len : Int)) && s.ptr.isSome) (∃ x : Int, w1.cell? (s.at 1 n.toNat) = some (.int .u8 x) ∧ Br (x != v) (F w1) (C I M n w1))) (K w1) := by
  refine ⟨fun n w1 => w1 = w ∧ ∃ t : Nat, n = t ∧ t ≤ l.length, fun n _ => (l.length - n).toNat, ⟨rfl, 0, rfl, by omega⟩, ?_⟩
  rintro n w1 ⟨rfl, t, rfl, ht⟩
  have hsl := h.len
  refine brd (fun hlt => ?_) (fun hge => k)
  refine needB h (by omega) (by omega) ⟨_, h.byte (by omega) (by omega), ?_⟩
  have : bt l (t : Int) = v := by
    rw [bt_nat (by omega)]
    subst hv
    simp
  rw [this]
  exact brf (by simp) (hC _ _ _ _ ⟨rfl, t + 1, wr_succ (by omega), by omega⟩ (by rw [wr_succ (by omega)]; (try dsimp only); omega))
end
end Go.Vc
end

section
namespace Go.Vc
set_option linter.unusedVariables false
set_option linter.unusedSimpArgs false
set_option autoImplicit false
theorem arrL_succ (n : Nat) (f : Nat → Int) : arrL (n + 1) f = arrL n f ++ [f n] := by simp [arrL, List.range_succ]
/-- an array's bytes are appended one by one -/
theorem app_loop {w w0 : World} {s : Sl} {l : List Int} {f : Nat → Int} {m : Nat} {mi : Int} {e e' : Nat} {cells : Int → List Value} {bs : List Nat} {K : Sl → World → Prop} {C : (Sl → Int → World → Prop) → (Sl → Int → World → Nat) → Sl → Int → World → Sl → World → Prop}
    (hm : mi = m) (u : Upd [] [] w0 w) (h : SeesB w s l) (o : Own w0.heap.size 1 w s) (hl : l.length + m ≤ 70368744177664) (hcells : ∀ t : Nat, t < m → cells (t : Int) = [.int .u8 (f t)]) (hbs : ∀ b ∈ bs, b < w0.heap.size)
    (hC : ∀ (I : Sl → Int → World → Prop) (M : Sl → Int → World → Nat) s n w r w', I r (wr .i64 (n + 1)) w' → M r (wr .i64 (n + 1)) w' < M s n w → C I M s n w r w')
    (k : ∀ s w1, Upd [] [] w0 w1 → SeesB w1 s (l ++ arrL m f) → Own w0.heap.size 1 w1 s → K s w1) :
    ∃ (I : Sl → Int → World → Prop), ∃ (M : Sl → Int → World → Nat), I s 0 w ∧ ∀ (s : Sl) (n : Int) (w1 : World), I s n w1 →
      Br (decide (n < mi)) (Need (decide (0 ≤ n) && decide (n < mi)) (∀ (b : Nat) (w2 : World), Upd [] [b] w1 w2 → w2.heap[b]? = some (.cells (cells n).toArray e (0, 0)) → Append e' 1 1 s ⟨some ⟨b, 0, none⟩, 1, 1⟩ bs w2 fun r w3 => C I M s n w1 r w3)) (K s w1) := by
  subst hm
  refine ⟨fun s n w1 => Upd [] [] w0 w1 ∧ Own w0.heap.size 1 w1 s ∧ ∃ t : Nat, n = t ∧ t ≤ m ∧ SeesB w1 s (l ++ arrL t f), fun _ n _ => (m - n).toNat, ⟨u, o, 0, rfl, by omega, by simpa [arrL] using h⟩, ?_⟩
  rintro s n w1 ⟨u, o, t, rfl, ht, hs⟩
  refine brd (fun hlt => ?_) (fun hge => ?_)
  · refine needIx2 (by omega) hlt ?_
    intro b w2 u2 hrow
    rw [hcells t (by omega)] at hrow
    have ho2 := o.old u2
    have v2 := u.then u2
    refine append_own (c := cU8) (new := [f t]) (hs.old u2) ho2 (rowB hrow _ rfl rfl) v2.size (fun b hb hmem => by have := (ho2.blk b hb).1; have := hbs b hmem; omega) (by omega) (by simp [arrL_len]; omega) fun r w3 hr3 ho3 u3 _ => ?_
    refine hC _ _ _ _ _ _ _ ⟨v2.step0 u3 (fun b hb => (ho2.blk b hb).1), ho3, t + 1, wr_succ (by omega), by omega, ?_⟩ (by rw [wr_succ (by omega)]; (try dsimp only); omega)
    rw [arrL_succ, ← List.append_assoc]
    exact hr3
  · have : t = m := by omega
    subst this
    exact k s w1 u hs o
end Go.Vc
end

section
namespace Go.Vc
set_option linter.unusedVariables false
set_option linter.unusedSimpArgs false
set_option autoImplicit false
theorem sub_blk {s : Sl} {sz l h m : Nat} : ∀ b ∈ (s.sub sz l h m).blk, b ∈ s.blk := by
  intro b hb
  unfold Sl.sub Sl.blk at hb
  unfold Sl.blk
  cases hrp : s.ptr with
  | none => rw [hrp] at hb; simp at hb
  | some a =>
    rw [hrp] at hb
    simp only [Option.map_some] at hb
    split at hb
    · cases hb
    · rename_i h1
      split at h1
      · simp at h1; subst h1; exact hb
      · simp at h1; subst h1; simpa using hb
theorem Cells.lt {w : World} {a : Addr} {vs : List Value} (h : Cells w (some a) vs) (hne : vs ≠ []) : a.block < w.heap.size := by
  have := h 0 (List.length_pos_iff.2 hne)
  simpa using cell_lt this
/-- blocks that came later are written -/
theorem Sees.upd' {α : Type} {c : Cod α} {w0 w w1 : World} {s : Sl} {l : List α} {m n : List Nat} (h0 : Sees c w0 s l) (h : Sees c w s l) (u : Upd m n w w1) (hm : ∀ b ∈ m, w0.heap.size ≤ b) : Sees c w1 s l :=
  ⟨h.len, h.row.upd u (fun a ha hne hmem => by
    have h1 := h0.row
    rw [ha] at h1
    have := h1.lt hne
    have := hm _ hmem
    omega)⟩
theorem Parts.upd' {w0 w w1 : World} {s : Sl} {ls : List (List Int)} {ss : List Sl} {m n : List Nat} (h0 : Parts w0 s ls ss) (h : Parts w s ls ss) (u : Upd m n w w1) (hm : ∀ b ∈ m, w0.heap.size ≤ b) : Parts w1 s ls ss :=
  ⟨h0.row.upd' h.row u hm, h.len, fun i hi => (h0.each i hi).upd' (h.each i hi) u hm⟩
end Go.Vc
namespace Go.Vc
theorem zeros_cells (m : Nat) : zerosOf (.int .u8) m = cU8.cells (List.replicate m 0) := by
  rw [Cod.cells_map1 (fun _ => rfl)]
  unfold zerosOf
  induction m with
  | zero => rfl
  | succ m ih => rw [List.replicate_succ, List.flatten_cons, ih, List.replicate_succ]; rfl
theorem imin_le (a b : Int) : imin a b ≤ a ∧ imin a b ≤ b ∧ (imin a b = a ∨ imin a b = b) := by unfold imin; split <;> omega
theorem imax_ge (a b : Int) : a ≤ imax a b ∧ b ≤ imax a b ∧ (imax a b = a ∨ imax a b = b) := by unfold imax; split <;> omega
end Go.Vc
end

section
namespace Go.Vc
set_option linter.unusedVariables false
set_option linter.unusedSimpArgs false
set_option autoImplicit false
section
variable {α : Type} {c : Cod α} {w w1 : World} {s : Sl} {l : List α}
/-- append, both ways apart: in place (the same pointer), or to new memory -/
theorem appendN_two {N e by_ n : Nat} {new : List α} {bs : List Nat} {F : Sl → World → Prop} (h : Sees c w s l) (o : Own N c.sz w s) (hN : N ≤ w.heap.size) (hn : n = new.length)
    (hbs : ∀ b ∈ s.blk, b ∉ bs) (hpos : 0 < by_) (hb : (l.length + new.length) * by_ ≤ 140737488355328)
    (k1 : ∀ r w1, Sees c w1 r (l ++ new) → Own N c.sz w1 r → r.ptr = s.ptr → Upd s.blk [] w w1 → (∀ N sz x, Own N sz w x → Own N sz w1 x) → w1.heap.size = w.heap.size → F r w1)
    (k2 : ∀ r w1, Sees c w1 r (l ++ new) → Own w.heap.size c.sz w1 r → Upd [] [] w w1 → F r w1) : AppendN e c.sz by_ s n (c.cells new) bs w F := by
  have hlen := h.len
  refine ⟨fun hfit => ?_, fun hgrow => ?_⟩
  · subst hn
    cases hp : s.ptr with
    | none =>
      have h0 := o.nil hp
      have e1 : new = [] := by cases new with | nil => rfl | cons => simp at hfit; omega
      subst e1
      have el : (⟨none, s.len + ([] : List α).length, s.cap⟩ : Sl) = s := by cases s; simp at hp; subst hp; rfl
      show F ⟨none, s.len + ([] : List α).length, s.cap⟩ w
      rw [el]
      exact k1 s w (by simpa using h) o rfl ((Upd.refl w).wide (by simp)) (fun _ _ _ h => h) rfl
    | some a =>
      obtain ⟨hs, hc⟩ := o.cell a hp
      have hmul : (s.len + new.length) * c.sz ≤ s.cap * c.sz := Nat.mul_le_mul_right _ hfit
      rw [Nat.add_mul] at hmul
      have hlc := c.cells_length new
      have hll := c.cells_length l
      have hrow := h.row
      rw [hp] at hrow
      refine ⟨fun i hi => ?_, ?_, ?_⟩
      · rw [add_add]
        exact hc _ (by omega)
      · simp only [add_block]
        exact hbs _ (by simp [blk_some hp])
      · show F _ (w.setCells (a.add (s.len * c.sz)).block (a.add (s.len * c.sz)).off (c.cells new))
        rw [off_add hs, add_block]
        refine k1 _ _ ⟨by simp [hlen], ?_⟩ ?_ hp.symm ((Upd.setCells w a.block _ _).wide (by simp [blk_some hp])) (fun _ _ _ h => h.setCells _ _ _) (setCells_size _ _ _ _)
        · rw [c.cells_append]
          refine Cells.mk ?_ ?_
          · have := cells_apart (vs := c.cells new) hs (s.len * c.sz) 0 (by simpa using hrow) (.inl (by rw [hll, hlen]; omega))
            simpa using this
          · rw [hll, ← hlen]
            exact cells_write hs _ (fun i hi => (hc _ (by omega)).1)
        · have := (o.setCells a.block (a.off + s.len * c.sz) (c.cells new))
          exact ⟨by simp; omega, by simp, by simpa [Sl.blk, hp] using this.blk, fun a' ha' => by simp at ha'; subst ha'; exact this.cell a hp⟩
  · have main := appendN_full (e := e) (by_ := by_) (n := n) (bs := bs) (F := F) (s := ⟨s.ptr, s.len, s.len⟩) (new := new) (w := w) (l := l) ⟨h.len, h.row⟩ (Nat.le_refl _) hn
    by_cases hn0 : 0 < n
    · have m2 := (main hn0 hpos hb k2).2 (by show s.len < s.len + n; omega)
      refine ⟨m2.1, ?_, m2.2.2⟩
      rw [h.len] at hgrow ⊢
      subst hn
      exact growslice_fits hgrow hb
    · have := o.le; omega
theorem append_two {N e by_ : Nat} {x : Sl} {new : List α} {bs : List Nat} {F : Sl → World → Prop} (h : Sees c w s l) (o : Own N c.sz w s) (hx : Sees c w x new) (hN : N ≤ w.heap.size)
    (hbs : ∀ b ∈ s.blk, b ∉ bs) (hpos : 0 < by_) (hb : (l.length + new.length) * by_ ≤ 140737488355328)
    (k1 : ∀ r w1, Sees c w1 r (l ++ new) → Own N c.sz w1 r → r.ptr = s.ptr → Upd s.blk [] w w1 → (∀ N sz x, Own N sz w x → Own N sz w1 x) → w1.heap.size = w.heap.size → F r w1)
    (k2 : ∀ r w1, Sees c w1 r (l ++ new) → Own w.heap.size c.sz w1 r → Upd [] [] w w1 → F r w1) : Append e c.sz by_ s x bs w F :=
  ⟨c.cells new, hx.rowAt, appendN_two h o hN hx.len hbs hpos hb k1 k2⟩
theorem blk_ptr {r s : Sl} (h : r.ptr = s.ptr) : r.blk = s.blk := by unfold Sl.blk; rw [h]
/-- a slice with another's pointer sees the other's beginning -/
theorem Sees.prefix_ {r : Sl} {l' : List α} (h : Sees c w r l') (hp : r.ptr = s.ptr) (hl : l' = l ++ l'.drop l.length) (hs : s.len = l.length) : Sees c w s l := by
  have := h.take (n := l.length) (by rw [hl]; simp) s.cap
  rw [hl, List.take_left] at this
  rw [hp, ← hs] at this
  exact this
end
end Go.Vc
end

section
namespace Go.Vc
set_option linter.unusedVariables false
set_option linter.unusedSimpArgs false
set_option autoImplicit false
/-- two slices in different arrays -/
def Apt (x y : Sl) : Prop := ∀ b ∈ x.blk, b ∉ y.blk
theorem Apt.symm {x y : Sl} (h : Apt x y) : Apt y x := fun b hb hm => h b hm hb
theorem apt_of {N M sz sz' : Nat} {w w' : World} {x y : Sl} (hx : Own N sz w x) (hy : Own M sz' w' y) (h : w.heap.size ≤ M) : Apt x y := fun b hb hm => by
  have := (hx.blk b hb).2
  have := (hy.blk b hm).1
  omega
/-- a list of lists of bytes, each in an array of its own -/
structure Lot (N : Nat) (w : World) (L : Sl) (ls : List (List Int)) (gs : List Sl) : Prop where
  parts : Parts w L ls gs
  own : Own N 1 w L
  owns : ∀ x ∈ gs, Own N 1 w x
  dis : gs.Pairwise Apt
  off : ∀ x ∈ gs, Apt x L
theorem Lot.nil (N : Nat) (w : World) : Lot N w ⟨none, 0, 0⟩ [] [] := ⟨Parts.nil _ _ _, Own.none _ _ _, by simp, by simp, by simp⟩
theorem Lot.old {N : Nat} {w w1 : World} {L : Sl} {ls : List (List Int)} {gs : List Sl} {n : List Nat} (h : Lot N w L ls gs) (u : Upd [] n w w1) : Lot N w1 L ls gs :=
  ⟨h.parts.old u, h.own.old u, fun x hx => (h.owns x hx).old u, h.dis, h.off⟩
theorem Lot.app {N M b e e' : Nat} {w : World} {L : Sl} {ls nl : List (List Int)} {gs ns : List Sl} {bs : List Nat} {F : Sl → World → Prop} {cs : List Value} {k0 : Nat} (h : Lot N w L ls gs)
    (hrow : w.heap[b]? = some (.cells cs.toArray e (0, 0))) (hcs : cs = cSl.cells ns) (hk0 : k0 = ns.length) (hns : AllB w ns nl) (hown : ∀ x ∈ ns, Own M 1 w x) (hd : ns.Pairwise Apt) (hg : ∀ x ∈ gs, ∀ b ∈ x.blk, b < M) (hL : ∀ b ∈ L.blk, b < M) (hNM : N ≤ M)
    (hNw : N ≤ w.heap.size) (hb : (gs.length + ns.length) * 24 ≤ 140737488355328) (hbs : ∀ x ∈ bs, x < N)
    (k : ∀ r w1, Lot N w1 r (ls ++ nl) (gs ++ ns) → Upd L.blk [] w w1 → F r w1) : Append e' 1 24 L ⟨some ⟨b, 0, none⟩, k0, k0⟩ bs w F := by
  subst hcs hk0
  refine append_own (c := cSl) (new := ns) h.parts.row h.own (sees_row hrow _ rfl rfl) hNw (fun x hx hm => by have := (h.own.blk x hx).1; have := hbs x hm; omega) (by decide) hb fun r w1 hr ho u hnew => ?_
  have hlen := hns.len
  have hgl := h.parts.len
  have dg : ∀ x ∈ gs, ∀ b ∈ x.blk, b ∉ L.blk := h.off
  have dn : ∀ x ∈ ns, ∀ b ∈ x.blk, b ∉ L.blk := fun x hx b hb hm => by have := ((hown x hx).blk b hb).1; have := hL b hm; omega
  refine k r w1 ⟨⟨hr, by simp [hgl, hlen], fun i hi => ?_⟩, ho, ?_, ?_, ?_⟩ u
  · by_cases hi2 : i < ls.length
    · rw [List.getElem_append_left (by rw [hgl]; exact hi2), List.getElem_append_left hi2]
      exact (h.parts.each i hi2).upd u (dg _ (List.getElem_mem _))
    · rw [List.getElem_append_right (by rw [hgl]; omega), List.getElem_append_right (by omega)]
      have := hns.get (i - ls.length) (by simp at hi; omega)
      simp only [hgl]
      exact this.upd u (dn _ (List.getElem_mem _))
  · intro x hx
    rcases List.mem_append.1 hx with hx | hx
    · exact (h.owns x hx).upd u (dg x hx)
    · exact ((hown x hx).upd u (dn x hx)).mono hNM
  · rw [List.pairwise_append]
    refine ⟨h.dis, hd, fun x hx y hy b hb hm => ?_⟩
    have := hg x hx b hb
    have := ((hown y hy).blk b hm).1
    omega
  · intro x hx b hb hm
    rcases List.mem_append.1 hx with hx | hx
    · rcases hnew b hm with h1 | h1
      · exact dg x hx b hb h1
      · have := ((h.owns x hx).blk b hb).2; omega
    · rcases hnew b hm with h1 | h1
      · exact dn x hx b hb h1
      · have := ((hown x hx).blk b hb).2; omega
theorem Lot.blks {N : Nat} {w : World} {L : Sl} {ls : List (List Int)} {gs : List Sl} (h : Lot N w L ls gs) : ∀ b ∈ gs.flatMap Sl.blk, N ≤ b ∧ b < w.heap.size := by
  intro b hb
  obtain ⟨x, hx, hb⟩ := List.mem_flatMap.1 hb
  exact (h.owns x hx).blk b hb
theorem Lot.index {N : Nat} {w : World} {L : Sl} {ls : List (List Int)} {gs : List Sl} (h : Lot N w L ls gs) : ∀ i j (hi : i < gs.length) (hj : j < gs.length), i ≠ j → ∀ b ∈ gs[i].blk, b ∉ gs[j].blk := by
  intro i j hi hj hne
  rcases Nat.lt_or_gt_of_ne hne with h1 | h1
  · exact List.pairwise_iff_getElem.1 h.dis i j hi hj h1
  · exact (List.pairwise_iff_getElem.1 h.dis j i hj hi h1 : Apt _ _).symm
end Go.Vc
end
