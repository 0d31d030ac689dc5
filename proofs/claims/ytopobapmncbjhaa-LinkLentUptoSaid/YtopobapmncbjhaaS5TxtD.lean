import Derived.Test.YtopobapmncbjhaaAnnr5
import Derived.Test.YtopobapmncbjhaaNum
import Derived.KernelRfl
open Go Go.Vc Go.Vc.S5 Go.Proofs
set_option maxRecDepth 100000
set_option linter.unusedVariables false
namespace Go.Vc.S5
def vc45 (b : Sl) (p1 : Int) (n : Int) (w : World) (R : SV → World → Prop) : Prop :=
  ∀ (b_1 b_2 : Nat) (w1 : World),
    Upd [] [b_2, b_1] w w1 →
      Ret Try.prog 57 [SV.int IntKind.i64 n] w1 fun (r : SV) (w1_1 : World) =>
        ∃ (b_3 : Bool),
          r = SV.bool b_3 ∧
            Keeps [b_1, b_2] w1 w1_1 ∧
              Br (!b_3) (∀ (w1 : World), Upd [b_2, b_1] [] w1_1 w1 → R (SV.tuple [SV.int IntKind.u64 0, SV.int IntKind.i64 1]) w1)
                ((World.heap w1_1)[b_1]? = some (Obj.cells { toList := SV.cells (SV.int IntKind.u64 0) } 80) →
                  (World.heap w1_1)[b_2]? = some (Obj.cells { toList := SV.cells (SV.int IntKind.i64 0) } 36) →
                    Ret Try.prog 59 [SV.slice b, SV.int IntKind.i64 p1, SV.int IntKind.i64 n] w1_1 fun (r : SV) (w1 : World) =>
                      ∃ (n : Int),
                        r = SV.int IntKind.u64 n ∧
                          Store w1 { block := b_1, off := 0 } (SV.cells (SV.int IntKind.u64 n)) [] fun (w1 : World) =>
                            Store w1 { block := b_2, off := 0 } (SV.cells (SV.int IntKind.i64 0)) [] fun (w1 : World) =>
                              RetD Try.prog 58 [SV.ptr (some { block := b_1, off := 0 }), SV.ptr (some { block := b_2, off := 0 })] w1 fun (w1 : World) =>
                                ∃ (n : Int),
                                  World.cell? w1 { block := b_1, off := 0 } = some (Value.int IntKind.u64 n) ∧
                                    ∃ (n_1 : Int),
                                      World.cell? w1 { block := b_2, off := 0 } = some (Value.int IntKind.i64 n_1) ∧ R (SV.tuple [SV.int IntKind.u64 n, SV.int IntKind.i64 n_1]) w1)
theorem f45_of (b : Sl) (p1 : Int) (n : Int) (w : World) (R : SV → World → Prop) (h : vc45 b p1 n w R) : Ret Try.prog 45 [.slice b, .int .i64 p1, .int .i64 n] w R :=
  have e : vc45 b p1 n w R = fnVCD X Try.f45 a45 [.slice b, .int .i64 p1, .int .i64 n] w R := by kernel_rfl
  fnVCD_sound X_ok (n := a45) (e ▸ h) (by kernel_rfl) (by kernel_rfl) rfl rfl

def vc43 (b : Sl) (w : World) (R : SV → World → Prop) : Prop :=
  ∀ (b_1 : Nat),
    Need (decide (0 < (↑b.2 : Int)) && Option.isSome b.1)
      (∃ (n : Int),
        World.cell? w (Sl.at b 1 0) = some (Value.int IntKind.u8 n) ∧
          Need (decide (1 < (↑b.2 : Int)) && Option.isSome b.1)
            (∃ (n_1 : Int),
              World.cell? w (Sl.at b 1 1) = some (Value.int IntKind.u8 n_1) ∧
                Need (decide (2 < (↑b.2 : Int)) && Option.isSome b.1)
                  (∃ (n_2 : Int),
                    World.cell? w (Sl.at b 1 2) = some (Value.int IntKind.u8 n_2) ∧
                      Need (decide (3 < (↑b.2 : Int)) && Option.isSome b.1)
                        (∃ (n_3 : Int),
                          World.cell? w (Sl.at b 1 3) = some (Value.int IntKind.u8 n_3) ∧
                            ∀ (w1 : World),
                              Upd [] [b_1] w w1 →
                                R (SV.struct [SV.int IntKind.i64 4, SV.arr IntKind.u8 16 (fset (fset (fset (fset (fun (x : Nat) => 0) 0 n) 1 n_1) 2 n_2) 3 n_3)]) w1))))
theorem f43_of (b : Sl) (w : World) (R : SV → World → Prop) (h : vc43 b w R) : Ret Try.prog 43 [.slice b] w R :=
  have e : vc43 b w R = fnVC X Try.f43 a43 [.slice b] w R := by kernel_rfl
  fnVC_sound X_ok (n := a43) (e ▸ h) (by kernel_rfl) (by kernel_rfl) rfl rfl

def vc42 (op : Int) (m : Nat → Int) (w : World) (R : SV → World → Prop) : Prop :=
  ∀ (b : Nat) (J : World → Prop),
    (∀ (w1 : World),
        (Ret Try.prog 14 [SV.arr IntKind.u8 6 m] w1 fun (r : SV) (w1_1 : World) =>
            ∃ (b_1 : Bool),
              r = SV.bool b_1 ∧
                Keeps [b] w1 w1_1 ∧ Br b_1 (R (SV.int IntKind.i64 58) w1_1) (Br (eqArr 6 m fun (x : Nat) => 0) (R (SV.int IntKind.i64 58) w1_1) (R (SV.int IntKind.i64 0) w1_1))) →
          J w1) →
      Br (op != 1)
        (Br (op != 2) (∀ (w1 : World), Upd [] [b] w w1 → R (SV.int IntKind.i64 57) w1)
          (∀ (w1 : World), Upd [] [b] w w1 → some (SV.box b 24 (SV.arr IntKind.u8 6 m)) = some (SV.box b 24 (SV.arr IntKind.u8 6 m)) ∧ J w1))
        (∀ (w1 : World), Upd [] [b] w w1 → some (SV.box b 24 (SV.arr IntKind.u8 6 m)) = some (SV.box b 24 (SV.arr IntKind.u8 6 m)) ∧ J w1)
theorem f42_of (op : Int) (m : Nat → Int) (w : World) (R : SV → World → Prop) (h : vc42 op m w R) : Ret Try.prog 42 [.int .i64 op, .arr .u8 6 m] w R :=
  have e : vc42 op m w R = fnVC X Try.f42 a42 [.int .i64 op, .arr .u8 6 m] w R := by kernel_rfl
  fnVC_sound X_ok (n := a42) (e ▸ h) (by kernel_rfl) (by kernel_rfl) rfl rfl

def vc47 (m : Nat → Int) (w : World) (R : SV → World → Prop) : Prop :=
  ∀ (b : Nat) (w1 : World),
    Upd [] [b] w w1 →
      Ret Try.prog 15 [SV.arr IntKind.u8 6 m] w1 fun (r : SV) (w1_1 : World) =>
        ∃ (b_1 : Bool), r = SV.bool b_1 ∧ Keeps [b] w1 w1_1 ∧ Br (!b_1) (R (SV.bool !eqArr 6 m fun (x : Nat) => 0) w1_1) (R (SV.bool false) w1_1)
theorem f47_of (m : Nat → Int) (w : World) (R : SV → World → Prop) (h : vc47 m w R) : Ret Try.prog 47 [.arr .u8 6 m] w R :=
  have e : vc47 m w R = fnVC X Try.f47 a47 [.arr .u8 6 m] w R := by kernel_rfl
  fnVC_sound X_ok (n := a47) (e ▸ h) (by kernel_rfl) (by kernel_rfl) rfl rfl

def vc48 (ip_0 : Int) (ip_1 : Nat → Int) (w : World) (R : SV → World → Prop) : Prop :=
  ∀ (b : Nat),
    Br (ip_0 != 4) (∀ (w1 : World), Upd [] [b] w w1 → R (SV.bool (ip_0 == 6)) w1)
      (∃ (I : Int → World → Prop),
        ∃ (M : Int → World → Nat),
          (∀ (w1 : World), Upd [] [b] w w1 → I 4 w1) ∧
            ∀ (n : Int) (w1 : World),
              I n w1 →
                Br (decide (n < 16))
                  (Need (decide (0 ≤ n) && decide (n < 16))
                    (Br (ip_1 (Int.toNat n) != 0) (R (SV.bool false) w1)
                      (some (SV.box b 33 (SV.struct [SV.int IntKind.i64 ip_0, SV.arr IntKind.u8 16 ip_1])) =
                          some (SV.box b 33 (SV.struct [SV.int IntKind.i64 ip_0, SV.arr IntKind.u8 16 ip_1])) ∧
                        I (wr IntKind.i64 (n + 1)) w1 ∧ M (wr IntKind.i64 (n + 1)) w1 < M n w1)))
                  (R (SV.bool true) w1))
theorem f48_of (ip_0 : Int) (ip_1 : Nat → Int) (w : World) (R : SV → World → Prop) (h : vc48 ip_0 ip_1 w R) : Ret Try.prog 48 [.struct [.int .i64 ip_0, .arr .u8 16 ip_1]] w R :=
  have e : vc48 ip_0 ip_1 w R = fnVC X Try.f48 a48 [.struct [.int .i64 ip_0, .arr .u8 16 ip_1]] w R := by kernel_rfl
  fnVC_sound X_ok (n := a48) (e ▸ h) (by kernel_rfl) (by kernel_rfl) rfl rfl

def vc57 (n : Int) (w : World) (R : SV → World → Prop) : Prop :=
  Br (decide (n ≥ 1)) (R (SV.bool (decide (n ≤ 8))) w) (R (SV.bool false) w)
theorem f57_of (n : Int) (w : World) (R : SV → World → Prop) (h : vc57 n w R) : Ret Try.prog 57 [.int .i64 n] w R :=
  have e : vc57 n w R = fnVC X Try.f57 a57 [.int .i64 n] w R := by kernel_rfl
  fnVC_sound X_ok (n := a57) (e ▸ h) (by kernel_rfl) (by kernel_rfl) rfl rfl

def vc59 (b : Sl) (p1 : Int) (n : Int) (w : World) (R : SV → World → Prop) : Prop :=
  ∀ (J : World → Prop),
    (∀ (w1 : World),
        (∃ (I : Int → Int → World → Prop),
            ∃ (M : Int → Int → World → Nat),
              I 0 0 w1 ∧
                ∀ (n_1 n_2 : Int) (w1 : World),
                  I n_1 n_2 w1 →
                    Br (decide (n_2 < n))
                      (Ret Try.prog 61 [SV.slice b, SV.int IntKind.i64 (wr IntKind.i64 (p1 + n_2))] w1 fun (r : SV) (w1_1 : World) =>
                        ∃ (n : Int),
                          r = SV.int IntKind.u8 n ∧
                            I (ior IntKind.u64 (gshl IntKind.u64 n_1 8) (wr IntKind.u64 n)) (wr IntKind.i64 (n_2 + 1)) w1_1 ∧
                              M (ior IntKind.u64 (gshl IntKind.u64 n_1 8) (wr IntKind.u64 n)) (wr IntKind.i64 (n_2 + 1)) w1_1 < M n_1 n_2 w1)
                      (R (SV.int IntKind.u64 n_1) w1)) →
          J w1) →
      Br (decide (p1 < 0)) False (Br (decide (p1 > (↑b.2 : Int))) False (J w))
theorem f59_of (b : Sl) (p1 : Int) (n : Int) (w : World) (R : SV → World → Prop) (h : vc59 b p1 n w R) : Ret Try.prog 59 [.slice b, .int .i64 p1, .int .i64 n] w R :=
  have e : vc59 b p1 n w R = fnVC X Try.f59 a59 [.slice b, .int .i64 p1, .int .i64 n] w R := by kernel_rfl
  fnVC_sound X_ok (n := a59) (e ▸ h) (by kernel_rfl) (by kernel_rfl) rfl rfl

def vc61 (b : Sl) (i : Int) (w : World) (R : SV → World → Prop) : Prop :=
  ∀ (J : World → Prop),
    (∀ (w1 : World),
        Need (decide (0 ≤ i) && decide (i < (↑b.2 : Int)) && Option.isSome b.1)
            (∃ (n : Int), World.cell? w1 (Sl.at b 1 (Int.toNat i)) = some (Value.int IntKind.u8 n) ∧ R (SV.int IntKind.u8 n) w1) →
          J w1) →
      Br (decide (i < 0)) False (Br (decide (i ≥ (↑b.2 : Int))) False (J w))
theorem f61_of (b : Sl) (i : Int) (w : World) (R : SV → World → Prop) (h : vc61 b i w R) : Ret Try.prog 61 [.slice b, .int .i64 i] w R :=
  have e : vc61 b i w R = fnVC X Try.f61 a61 [.slice b, .int .i64 i] w R := by kernel_rfl
  fnVC_sound X_ok (n := a61) (e ▸ h) (by kernel_rfl) (by kernel_rfl) rfl rfl

def vc21 (w : World) (R : SV → World → Prop) : Prop :=
  ∀ (b : Nat) (w1 : World),
    Upd [] [b] w w1 →
      R
        (SV.struct
          [SV.int IntKind.i64 1, SV.arr IntKind.u8 6 (fset (fset (fset (fset (fset (fset (fun (x : Nat) => 0) 0 2) 1 0) 2 0) 3 0) 4 0) 5 1),
            SV.struct [SV.int IntKind.i64 4, SV.arr IntKind.u8 16 fun (x : Nat) => 0], SV.arr IntKind.u8 6 fun (x : Nat) => 0,
            SV.struct [SV.int IntKind.i64 4, SV.arr IntKind.u8 16 fun (x : Nat) => 0]])
        w1
theorem f21_of (w : World) (R : SV → World → Prop) (h : vc21 w R) : Ret Try.prog 21 [] w R :=
  have e : vc21 w R = fnVC X Try.f21 a21 [] w R := by kernel_rfl
  fnVC_sound X_ok (n := a21) (e ▸ h) (by kernel_rfl) (by kernel_rfl) rfl rfl

def vc22 (b : Sl) (w : World) (R : SV → World → Prop) : Prop :=
  ∀ (b_1 : Nat),
    Br (decide ((↑b.2 : Int) > 65535))
      (∀ (w1 : World),
        Upd [] [b_1] w w1 →
          R
            (SV.tuple
              [SV.struct
                  [SV.int IntKind.i64 0, SV.arr IntKind.u8 6 fun (x : Nat) => 0, SV.struct [SV.int IntKind.i64 0, SV.arr IntKind.u8 16 fun (x : Nat) => 0],
                    SV.arr IntKind.u8 6 fun (x : Nat) => 0, SV.struct [SV.int IntKind.i64 0, SV.arr IntKind.u8 16 fun (x : Nat) => 0]],
                SV.int IntKind.i64 2])
            w1)
      (Br (decide ((↑b.2 : Int) < 28))
        (∀ (w1 : World),
          Upd [] [b_1] w w1 →
            R
              (SV.tuple
                [SV.struct
                    [SV.int IntKind.i64 0, SV.arr IntKind.u8 6 fun (x : Nat) => 0, SV.struct [SV.int IntKind.i64 0, SV.arr IntKind.u8 16 fun (x : Nat) => 0],
                      SV.arr IntKind.u8 6 fun (x : Nat) => 0, SV.struct [SV.int IntKind.i64 0, SV.arr IntKind.u8 16 fun (x : Nat) => 0]],
                  SV.int IntKind.i64 55])
              w1)
        (Need (decide (6 ≤ (↑b.3 : Int)))
          (BytesStr w (Sl.sub b 1 0 6 b.3) fun (b_2 : ByteArray) =>
            Br (!b_2 == { data := { toList := [0, 1, 8, 0, 6, 4] } })
              (∀ (w1 : World),
                Upd [] [b_1] w w1 →
                  R
                    (SV.tuple
                      [SV.struct
                          [SV.int IntKind.i64 0, SV.arr IntKind.u8 6 fun (x : Nat) => 0, SV.struct [SV.int IntKind.i64 0, SV.arr IntKind.u8 16 fun (x : Nat) => 0],
                            SV.arr IntKind.u8 6 fun (x : Nat) => 0, SV.struct [SV.int IntKind.i64 0, SV.arr IntKind.u8 16 fun (x : Nat) => 0]],
                        SV.int IntKind.i64 56])
                    w1)
              (∀ (w1 : World),
                Upd [] [b_1] w w1 →
                  Ret Try.prog 45 [SV.slice b, SV.int IntKind.i64 6, SV.int IntKind.i64 2] w1 fun (r : SV) (w1_1 : World) =>
                    ∃ (n : Int),
                      ∃ (n_1 : Int),
                        r = SV.tuple [SV.int IntKind.u64 n, SV.int IntKind.i64 n_1] ∧
                          Keeps [b_1] w1 w1_1 ∧
                            Need (decide (14 ≤ (↑b.3 : Int)) && decide (8 ≤ 14))
                              (Need (decide (6 ≤ (Sl.sub b 1 8 14 b.3).2) && Option.isSome (Sl.sub b 1 8 14 b.3).1)
                                (∃ (f : Nat → Int),
                                  (∀ (i : Nat), i < 6 → World.cell? w1_1 (Addr.add (Sl.at (Sl.sub b 1 8 14 b.3) 0 0) (0 + i)) = some (Value.int IntKind.u8 (f i))) ∧
                                    Need (decide (18 ≤ (↑b.3 : Int)) && decide (14 ≤ 18))
                                      (Need (decide (24 ≤ (↑b.3 : Int)) && decide (18 ≤ 24))
                                        (Need (decide (6 ≤ (Sl.sub b 1 18 24 b.3).2) && Option.isSome (Sl.sub b 1 18 24 b.3).1)
                                          (∃ (f_1 : Nat → Int),
                                            (∀ (i : Nat), i < 6 → World.cell? w1_1 (Addr.add (Sl.at (Sl.sub b 1 18 24 b.3) 0 0) (0 + i)) = some (Value.int IntKind.u8 (f_1 i))) ∧
                                              Need (decide (28 ≤ (↑b.3 : Int)) && decide (24 ≤ 28))
                                                ((∀ (w1 : World),
                                                    Upd [] [] w1_1 w1 →
                                                      Ret Try.prog 43 [SV.slice (Sl.sub b 1 14 18 b.3)] w1 fun (r : SV) (w1_2 : World) =>
                                                        ∃ (n_2 : Int),
                                                          ∃ (f_2 : Nat → Int),
                                                            r = SV.struct [SV.int IntKind.i64 n_2, SV.arr IntKind.u8 16 f_2] ∧
                                                              Keeps [b_1] w1 w1_2 ∧
                                                                Upd [] [] w1_1 w1_2 ∧
                                                                  (Ret Try.prog 43 [SV.slice (Sl.sub b 1 24 28 b.3)] w1_2 fun (r : SV) (w1 : World) =>
                                                                      ∃ (n_3 : Int),
                                                                        ∃ (f_3 : Nat → Int),
                                                                          r = SV.struct [SV.int IntKind.i64 n_3, SV.arr IntKind.u8 16 f_3] ∧
                                                                            Keeps [b_1] w1_2 w1 ∧
                                                                              Upd [] [] w1_1 w1 ∧
                                                                                ∀ (b : Nat),
                                                                                  Upd [] [] w1_1 w1 ∧
                                                                                    ∀ (w1_3 : World),
                                                                                      Upd [] [b] w1 w1_3 →
                                                                                        Ret Try.prog 42 [SV.int IntKind.i64 (wr IntKind.i64 n), SV.arr IntKind.u8 6 f] w1_3
                                                                                          fun (r : SV) (w1 : World) =>
                                                                                          ∃ (n_4 : Int),
                                                                                            r = SV.int IntKind.i64 n_4 ∧
                                                                                              Keeps [b_1, b] w1_3 w1 ∧
                                                                                                Br (n_4 != 0)
                                                                                                  (∀ (w1_4 : World),
                                                                                                    Upd [b_1] [] w1 w1_4 →
                                                                                                      R
                                                                                                        (SV.tuple
                                                                                                          [SV.struct
                                                                                                              [SV.int IntKind.i64 0, SV.arr IntKind.u8 6 fun (x : Nat) => 0,
                                                                                                                SV.struct
                                                                                                                  [SV.int IntKind.i64 0, SV.arr IntKind.u8 16 fun (x : Nat) => 0],
                                                                                                                SV.arr IntKind.u8 6 fun (x : Nat) => 0,
                                                                                                                SV.struct
                                                                                                                  [SV.int IntKind.i64 0, SV.arr IntKind.u8 16 fun (x : Nat) => 0]],
                                                                                                            SV.int IntKind.i64 n_4])
                                                                                                        w1_4)
                                                                                                  (∀ (w1_4 : World),
                                                                                                    Upd [b_1] [] w1 w1_4 →
                                                                                                      R
                                                                                                        (SV.tuple
                                                                                                          [SV.struct
                                                                                                              [SV.int IntKind.i64 (wr IntKind.i64 n), SV.arr IntKind.u8 6 f,
                                                                                                                SV.struct [SV.int IntKind.i64 n_2, SV.arr IntKind.u8 16 f_2],
                                                                                                                SV.arr IntKind.u8 6 f_1,
                                                                                                                SV.struct [SV.int IntKind.i64 n_3, SV.arr IntKind.u8 16 f_3]],
                                                                                                            SV.int IntKind.i64 0])
                                                                                                        w1_4)) ∧
                                                                    ∀ (b_3 : Nat),
                                                                      Upd [] [] w1_1 w1_2 ∧
                                                                        ∀ (w1 : World),
                                                                          Upd [] [b_3] w1_2 w1 →
                                                                            Ret Try.prog 43 [SV.slice (Sl.sub b 1 24 28 b.3)] w1 fun (r : SV) (w1_3 : World) =>
                                                                              ∃ (n_3 : Int),
                                                                                ∃ (f_3 : Nat → Int),
                                                                                  r = SV.struct [SV.int IntKind.i64 n_3, SV.arr IntKind.u8 16 f_3] ∧
                                                                                    Keeps [b_1, b_3] w1 w1_3 ∧
                                                                                      Upd [] [] w1_1 w1_3 ∧
                                                                                        ∀ (w1 : World),
                                                                                          Upd [b_3] [] w1_3 w1 →
                                                                                            Ret Try.prog 42 [SV.int IntKind.i64 (wr IntKind.i64 n), SV.arr IntKind.u8 6 f] w1
                                                                                              fun (r : SV) (w1_4 : World) =>
                                                                                              ∃ (n_4 : Int),
                                                                                                r = SV.int IntKind.i64 n_4 ∧
                                                                                                  Keeps [b_1, b_3] w1 w1_4 ∧
                                                                                                    Br (n_4 != 0)
                                                                                                      (∀ (w1 : World),
                                                                                                        Upd [b_1] [] w1_4 w1 →
                                                                                                          R
                                                                                                            (SV.tuple
                                                                                                              [SV.struct
                                                                                                                  [SV.int IntKind.i64 0, SV.arr IntKind.u8 6 fun (x : Nat) => 0,
                                                                                                                    SV.struct
                                                                                                                      [SV.int IntKind.i64 0, SV.arr IntKind.u8 16 fun (x : Nat) => 0],
                                                                                                                    SV.arr IntKind.u8 6 fun (x : Nat) => 0,
                                                                                                                    SV.struct
                                                                                                                      [SV.int IntKind.i64 0,
                                                                                                                        SV.arr IntKind.u8 16 fun (x : Nat) => 0]],
                                                                                                                SV.int IntKind.i64 n_4])
                                                                                                            w1)
                                                                                                      (∀ (w1 : World),
                                                                                                        Upd [b_1] [] w1_4 w1 →
                                                                                                          R
                                                                                                            (SV.tuple
                                                                                                              [SV.struct
                                                                                                                  [SV.int IntKind.i64 (wr IntKind.i64 n), SV.arr IntKind.u8 6 f,
                                                                                                                    SV.struct [SV.int IntKind.i64 n_2, SV.arr IntKind.u8 16 f_2],
                                                                                                                    SV.arr IntKind.u8 6 f_1,
                                                                                                                    SV.struct [SV.int IntKind.i64 n_3, SV.arr IntKind.u8 16 f_3]],
                                                                                                                SV.int IntKind.i64 0])
                                                                                                            w1)) ∧
                                                  ∀ (b_3 : Nat),
                                                    Upd [] [] w1_1 w1_1 ∧
                                                      ∀ (w1 : World),
                                                        Upd [] [b_3] w1_1 w1 →
                                                          Ret Try.prog 43 [SV.slice (Sl.sub b 1 14 18 b.3)] w1 fun (r : SV) (w1_2 : World) =>
                                                            ∃ (n_2 : Int),
                                                              ∃ (f_2 : Nat → Int),
                                                                r = SV.struct [SV.int IntKind.i64 n_2, SV.arr IntKind.u8 16 f_2] ∧
                                                                  Keeps [b_1, b_3] w1 w1_2 ∧
                                                                    Upd [] [] w1_1 w1_2 ∧
                                                                      Ret Try.prog 43 [SV.slice (Sl.sub b 1 24 28 b.3)] w1_2 fun (r : SV) (w1 : World) =>
                                                                        ∃ (n_3 : Int),
                                                                          ∃ (f_3 : Nat → Int),
                                                                            r = SV.struct [SV.int IntKind.i64 n_3, SV.arr IntKind.u8 16 f_3] ∧
                                                                              Keeps [b_1, b_3] w1_2 w1 ∧
                                                                                Upd [] [] w1_1 w1 ∧
                                                                                  ∀ (w1_3 : World),
                                                                                    Upd [b_3] [] w1 w1_3 →
                                                                                      Ret Try.prog 42 [SV.int IntKind.i64 (wr IntKind.i64 n), SV.arr IntKind.u8 6 f] w1_3
                                                                                        fun (r : SV) (w1 : World) =>
                                                                                        ∃ (n_4 : Int),
                                                                                          r = SV.int IntKind.i64 n_4 ∧
                                                                                            Keeps [b_1, b_3] w1_3 w1 ∧
                                                                                              Br (n_4 != 0)
                                                                                                (∀ (w1_4 : World),
                                                                                                  Upd [b_1] [] w1 w1_4 →
                                                                                                    R
                                                                                                      (SV.tuple
                                                                                                        [SV.struct
                                                                                                            [SV.int IntKind.i64 0, SV.arr IntKind.u8 6 fun (x : Nat) => 0,
                                                                                                              SV.struct
                                                                                                                [SV.int IntKind.i64 0, SV.arr IntKind.u8 16 fun (x : Nat) => 0],
                                                                                                              SV.arr IntKind.u8 6 fun (x : Nat) => 0,
                                                                                                              SV.struct
                                                                                                                [SV.int IntKind.i64 0, SV.arr IntKind.u8 16 fun (x : Nat) => 0]],
                                                                                                          SV.int IntKind.i64 n_4])
                                                                                                      w1_4)
                                                                                                (∀ (w1_4 : World),
                                                                                                  Upd [b_1] [] w1 w1_4 →
                                                                                                    R
                                                                                                      (SV.tuple
                                                                                                        [SV.struct
                                                                                                            [SV.int IntKind.i64 (wr IntKind.i64 n), SV.arr IntKind.u8 6 f,
                                                                                                              SV.struct [SV.int IntKind.i64 n_2, SV.arr IntKind.u8 16 f_2],
                                                                                                              SV.arr IntKind.u8 6 f_1,
                                                                                                              SV.struct [SV.int IntKind.i64 n_3, SV.arr IntKind.u8 16 f_3]],
                                                                                                          SV.int IntKind.i64 0])
                                                                                                      w1_4)))))))))))
theorem f22_of (b : Sl) (w : World) (R : SV → World → Prop) (h : vc22 b w R) : Ret Try.prog 22 [.slice b] w R :=
  have e : vc22 b w R = fnVC X Try.f22 a22 [.slice b] w R := by kernel_rfl
  fnVC_sound X_ok (n := a22) (e ▸ h) (by kernel_rfl) (by kernel_rfl) rfl rfl

def vc23 (b : Sl) (w : World) (R : SV → World → Prop) : Prop :=
  ∀ (b_1 b_2 : Nat),
    Br (decide ((↑b.2 : Int) > 65535))
      (∀ (w1 : World),
        Upd [] [b_2, b_1] w w1 →
          R
            (SV.tuple
              [SV.struct
                  [SV.int IntKind.i64 0, SV.arr IntKind.u8 6 fun (x : Nat) => 0, SV.struct [SV.int IntKind.i64 0, SV.arr IntKind.u8 16 fun (x : Nat) => 0],
                    SV.arr IntKind.u8 6 fun (x : Nat) => 0, SV.struct [SV.int IntKind.i64 0, SV.arr IntKind.u8 16 fun (x : Nat) => 0]],
                SV.int IntKind.i64 2])
            w1)
      (Br (decide ((↑b.2 : Int) < 28))
        (∀ (w1 : World),
          Upd [] [b_2, b_1] w w1 →
            R
              (SV.tuple
                [SV.struct
                    [SV.int IntKind.i64 0, SV.arr IntKind.u8 6 fun (x : Nat) => 0, SV.struct [SV.int IntKind.i64 0, SV.arr IntKind.u8 16 fun (x : Nat) => 0],
                      SV.arr IntKind.u8 6 fun (x : Nat) => 0, SV.struct [SV.int IntKind.i64 0, SV.arr IntKind.u8 16 fun (x : Nat) => 0]],
                  SV.int IntKind.i64 55])
              w1)
        (Need (decide (6 ≤ (↑b.3 : Int)))
          (BytesStr w (Sl.sub b 1 0 6 b.3) fun (b_3 : ByteArray) =>
            Br (!b_3 == { data := { toList := [0, 1, 8, 0, 6, 4] } })
              (∀ (w1 : World),
                Upd [] [b_2, b_1] w w1 →
                  R
                    (SV.tuple
                      [SV.struct
                          [SV.int IntKind.i64 0, SV.arr IntKind.u8 6 fun (x : Nat) => 0, SV.struct [SV.int IntKind.i64 0, SV.arr IntKind.u8 16 fun (x : Nat) => 0],
                            SV.arr IntKind.u8 6 fun (x : Nat) => 0, SV.struct [SV.int IntKind.i64 0, SV.arr IntKind.u8 16 fun (x : Nat) => 0]],
                        SV.int IntKind.i64 56])
                    w1)
              (∀ (w1 : World),
                Upd [] [b_2, b_1] w w1 →
                  Ret Try.prog 46 [SV.slice b, SV.int IntKind.i64 6] w1 fun (r : SV) (w1_1 : World) =>
                    ∃ (n : Int),
                      r = SV.int IntKind.i64 n ∧
                        Keeps [b_1, b_2] w1 w1_1 ∧
                          ∀ (b_4 : Nat),
                            ∃ (I : Int → Int → (Nat → Int) → Int → (Nat → Int) → (Nat → Int) → Int → (Nat → Int) → World → Prop),
                              ∃ (M : Int → Int → (Nat → Int) → Int → (Nat → Int) → (Nat → Int) → Int → (Nat → Int) → World → Nat),
                                (∀ (w1 : World), Upd [] [b_4] w1_1 w1 → I 0 n (fun (x : Nat) => 0) 4 (fun (x : Nat) => 0) (fun (x : Nat) => 0) 4 (fun (x : Nat) => 0) w1) ∧
                                  ∀ (n n_1 : Int) (f : Nat → Int) (n_2 : Int) (f_1 f_2 : Nat → Int) (n_3 : Int) (f_3 : Nat → Int) (w1 : World),
                                    I n n_1 f n_2 f_1 f_2 n_3 f_3 w1 →
                                      Br (decide (n < 6))
                                        (Need (decide (0 ≤ wr IntKind.i64 (8 + n)) && decide (wr IntKind.i64 (8 + n) < (↑b.2 : Int)) && Option.isSome b.1)
                                          (∃ (n_4 : Int),
                                            World.cell? w1 (Sl.at b 1 (Int.toNat (wr IntKind.i64 (8 + n)))) = some (Value.int IntKind.u8 n_4) ∧
                                              Need (decide (0 ≤ n) && decide (n < 6))
                                                (Need (decide (0 ≤ wr IntKind.i64 (18 + n)) && decide (wr IntKind.i64 (18 + n) < (↑b.2 : Int)) && Option.isSome b.1)
                                                  (∀ (w1_2 : World),
                                                    Upd [b_4] [] w1 w1_2 →
                                                      ∃ (n_5 : Int),
                                                        World.cell? w1_2 (Sl.at b 1 (Int.toNat (wr IntKind.i64 (18 + n)))) = some (Value.int IntKind.u8 n_5) ∧
                                                          Need (decide (0 ≤ n) && decide (n < 6))
                                                            (∀ (w1_3 : World),
                                                              Upd [b_4] [] w1_2 w1_3 →
                                                                some
                                                                      (SV.box b_1 35
                                                                        (SV.struct
                                                                          [SV.int IntKind.i64 0, SV.arr IntKind.u8 6 fun (x : Nat) => 0,
                                                                            SV.struct [SV.int IntKind.i64 0, SV.arr IntKind.u8 16 fun (x : Nat) => 0],
                                                                            SV.arr IntKind.u8 6 fun (x : Nat) => 0,
                                                                            SV.struct [SV.int IntKind.i64 0, SV.arr IntKind.u8 16 fun (x : Nat) => 0]])) =
                                                                    some
                                                                      (SV.box b_1 35
                                                                        (SV.struct
                                                                          [SV.int IntKind.i64 0, SV.arr IntKind.u8 6 fun (x : Nat) => 0,
                                                                            SV.struct [SV.int IntKind.i64 0, SV.arr IntKind.u8 16 fun (x : Nat) => 0],
                                                                            SV.arr IntKind.u8 6 fun (x : Nat) => 0,
                                                                            SV.struct [SV.int IntKind.i64 0, SV.arr IntKind.u8 16 fun (x : Nat) => 0]])) ∧
                                                                  some
                                                                        (SV.box b_2 35
                                                                          (SV.struct
                                                                            [SV.int IntKind.i64 0, SV.arr IntKind.u8 6 fun (x : Nat) => 0,
                                                                              SV.struct [SV.int IntKind.i64 0, SV.arr IntKind.u8 16 fun (x : Nat) => 0],
                                                                              SV.arr IntKind.u8 6 fun (x : Nat) => 0,
                                                                              SV.struct [SV.int IntKind.i64 0, SV.arr IntKind.u8 16 fun (x : Nat) => 0]])) =
                                                                      some
                                                                        (SV.box b_2 35
                                                                          (SV.struct
                                                                            [SV.int IntKind.i64 0, SV.arr IntKind.u8 6 fun (x : Nat) => 0,
                                                                              SV.struct [SV.int IntKind.i64 0, SV.arr IntKind.u8 16 fun (x : Nat) => 0],
                                                                              SV.arr IntKind.u8 6 fun (x : Nat) => 0,
                                                                              SV.struct [SV.int IntKind.i64 0, SV.arr IntKind.u8 16 fun (x : Nat) => 0]])) ∧
                                                                    (b_4, 35) = (b_4, 35) ∧
                                                                      I (wr IntKind.i64 (n + 1)) n_1 (fset f (Int.toNat n) n_4) n_2 f_1 (fset f_2 (Int.toNat n) n_5) n_3 f_3 w1_3 ∧
                                                                        M (wr IntKind.i64 (n + 1)) n_1 (fset f (Int.toNat n) n_4) n_2 f_1 (fset f_2 (Int.toNat n) n_5) n_3 f_3 w1_3 <
                                                                          M n n_1 f n_2 f_1 f_2 n_3 f_3 w1)))))
                                        (∃ (I : Int → Int → (Nat → Int) → Int → (Nat → Int) → (Nat → Int) → Int → (Nat → Int) → World → Prop),
                                          ∃ (M : Int → Int → (Nat → Int) → Int → (Nat → Int) → (Nat → Int) → Int → (Nat → Int) → World → Nat),
                                            I 0 n_1 f n_2 f_1 f_2 n_3 f_3 w1 ∧
                                              ∀ (n n_4 : Int) (f : Nat → Int) (n_5 : Int) (f_4 f_5 : Nat → Int) (n_6 : Int) (f_6 : Nat → Int) (w1 : World),
                                                I n n_4 f n_5 f_4 f_5 n_6 f_6 w1 →
                                                  Br (decide (n < 4))
                                                    (Need (decide (0 ≤ wr IntKind.i64 (14 + n)) && decide (wr IntKind.i64 (14 + n) < (↑b.2 : Int)) && Option.isSome b.1)
                                                      (∃ (n_7 : Int),
                                                        World.cell? w1 (Sl.at b 1 (Int.toNat (wr IntKind.i64 (14 + n)))) = some (Value.int IntKind.u8 n_7) ∧
                                                          Need (decide (0 ≤ n) && decide (n < 16))
                                                            (Need (decide (0 ≤ wr IntKind.i64 (24 + n)) && decide (wr IntKind.i64 (24 + n) < (↑b.2 : Int)) && Option.isSome b.1)
                                                              (∀ (w1_2 : World),
                                                                Upd [b_4] [] w1 w1_2 →
                                                                  ∃ (n_8 : Int),
                                                                    World.cell? w1_2 (Sl.at b 1 (Int.toNat (wr IntKind.i64 (24 + n)))) = some (Value.int IntKind.u8 n_8) ∧
                                                                      Need (decide (0 ≤ n) && decide (n < 16))
                                                                        (∀ (w1_3 : World),
                                                                          Upd [b_4] [] w1_2 w1_3 →
                                                                            some
                                                                                  (SV.box b_1 35
                                                                                    (SV.struct
                                                                                      [SV.int IntKind.i64 0, SV.arr IntKind.u8 6 fun (x : Nat) => 0,
                                                                                        SV.struct [SV.int IntKind.i64 0, SV.arr IntKind.u8 16 fun (x : Nat) => 0],
                                                                                        SV.arr IntKind.u8 6 fun (x : Nat) => 0,
                                                                                        SV.struct [SV.int IntKind.i64 0, SV.arr IntKind.u8 16 fun (x : Nat) => 0]])) =
                                                                                some
                                                                                  (SV.box b_1 35
                                                                                    (SV.struct
                                                                                      [SV.int IntKind.i64 0, SV.arr IntKind.u8 6 fun (x : Nat) => 0,
                                                                                        SV.struct [SV.int IntKind.i64 0, SV.arr IntKind.u8 16 fun (x : Nat) => 0],
                                                                                        SV.arr IntKind.u8 6 fun (x : Nat) => 0,
                                                                                        SV.struct [SV.int IntKind.i64 0, SV.arr IntKind.u8 16 fun (x : Nat) => 0]])) ∧
                                                                              some
                                                                                    (SV.box b_2 35
                                                                                      (SV.struct
                                                                                        [SV.int IntKind.i64 0, SV.arr IntKind.u8 6 fun (x : Nat) => 0,
                                                                                          SV.struct [SV.int IntKind.i64 0, SV.arr IntKind.u8 16 fun (x : Nat) => 0],
                                                                                          SV.arr IntKind.u8 6 fun (x : Nat) => 0,
                                                                                          SV.struct [SV.int IntKind.i64 0, SV.arr IntKind.u8 16 fun (x : Nat) => 0]])) =
                                                                                  some
                                                                                    (SV.box b_2 35
                                                                                      (SV.struct
                                                                                        [SV.int IntKind.i64 0, SV.arr IntKind.u8 6 fun (x : Nat) => 0,
                                                                                          SV.struct [SV.int IntKind.i64 0, SV.arr IntKind.u8 16 fun (x : Nat) => 0],
                                                                                          SV.arr IntKind.u8 6 fun (x : Nat) => 0,
                                                                                          SV.struct [SV.int IntKind.i64 0, SV.arr IntKind.u8 16 fun (x : Nat) => 0]])) ∧
                                                                                (b_4, 35) = (b_4, 35) ∧
                                                                                  I (wr IntKind.i64 (n + 1)) n_4 f n_5 (fset f_4 (Int.toNat n) n_7) f_5 n_6
                                                                                      (fset f_6 (Int.toNat n) n_8) w1_3 ∧
                                                                                    M (wr IntKind.i64 (n + 1)) n_4 f n_5 (fset f_4 (Int.toNat n) n_7) f_5 n_6
                                                                                        (fset f_6 (Int.toNat n) n_8) w1_3 <
                                                                                      M n n_4 f n_5 f_4 f_5 n_6 f_6 w1)))))
                                                    (∀ (J : Int → (Nat → Int) → Int → (Nat → Int) → (Nat → Int) → Int → (Nat → Int) → World → Prop),
                                                      (∀ (n : Int) (f_7 : Nat → Int) (n_7 : Int) (f_8 f_9 : Nat → Int) (n_8 : Int) (f_10 : Nat → Int) (w1 : World),
                                                          (Ret Try.prog 47 [SV.arr IntKind.u8 6 f] w1 fun (r : SV) (w1_2 : World) =>
                                                              ∃ (b : Bool),
                                                                r = SV.bool b ∧
                                                                  Keeps [b_1, b_2, b_4] w1 w1_2 ∧
                                                                    Br (!b)
                                                                      (∀ (w1 : World),
                                                                        Upd [b_1] [] w1_2 w1 →
                                                                          R
                                                                            (SV.tuple
                                                                              [SV.struct
                                                                                  [SV.int IntKind.i64 0, SV.arr IntKind.u8 6 fun (x : Nat) => 0,
                                                                                    SV.struct [SV.int IntKind.i64 0, SV.arr IntKind.u8 16 fun (x : Nat) => 0],
                                                                                    SV.arr IntKind.u8 6 fun (x : Nat) => 0,
                                                                                    SV.struct [SV.int IntKind.i64 0, SV.arr IntKind.u8 16 fun (x : Nat) => 0]],
                                                                                SV.int IntKind.i64 58])
                                                                            w1)
                                                                      (∀ (w1 : World),
                                                                        Upd [b_1] [] w1_2 w1 →
                                                                          R
                                                                            (SV.tuple
                                                                              [SV.struct
                                                                                  [SV.int IntKind.i64 n_4, SV.arr IntKind.u8 6 f,
                                                                                    SV.struct [SV.int IntKind.i64 n_5, SV.arr IntKind.u8 16 f_4], SV.arr IntKind.u8 6 f_5,
                                                                                    SV.struct [SV.int IntKind.i64 n_6, SV.arr IntKind.u8 16 f_6]],
                                                                                SV.int IntKind.i64 0])
                                                                            w1)) →
                                                            J n f_7 n_7 f_8 f_9 n_8 f_10 w1) →
                                                        Br (n_4 != 1)
                                                          (Br (n_4 != 2)
                                                            (∀ (w1_2 : World),
                                                              Upd [b_1] [] w1 w1_2 →
                                                                R
                                                                  (SV.tuple
                                                                    [SV.struct
                                                                        [SV.int IntKind.i64 0, SV.arr IntKind.u8 6 fun (x : Nat) => 0,
                                                                          SV.struct [SV.int IntKind.i64 0, SV.arr IntKind.u8 16 fun (x : Nat) => 0],
                                                                          SV.arr IntKind.u8 6 fun (x : Nat) => 0,
                                                                          SV.struct [SV.int IntKind.i64 0, SV.arr IntKind.u8 16 fun (x : Nat) => 0]],
                                                                      SV.int IntKind.i64 57])
                                                                  w1_2)
                                                            (some
                                                                  (SV.box b_2 35
                                                                    (SV.struct
                                                                      [SV.int IntKind.i64 0, SV.arr IntKind.u8 6 fun (x : Nat) => 0,
                                                                        SV.struct [SV.int IntKind.i64 0, SV.arr IntKind.u8 16 fun (x : Nat) => 0],
                                                                        SV.arr IntKind.u8 6 fun (x : Nat) => 0,
                                                                        SV.struct [SV.int IntKind.i64 0, SV.arr IntKind.u8 16 fun (x : Nat) => 0]])) =
                                                                some
                                                                  (SV.box b_2 35
                                                                    (SV.struct
                                                                      [SV.int IntKind.i64 0, SV.arr IntKind.u8 6 fun (x : Nat) => 0,
                                                                        SV.struct [SV.int IntKind.i64 0, SV.arr IntKind.u8 16 fun (x : Nat) => 0],
                                                                        SV.arr IntKind.u8 6 fun (x : Nat) => 0,
                                                                        SV.struct [SV.int IntKind.i64 0, SV.arr IntKind.u8 16 fun (x : Nat) => 0]])) ∧
                                                              some
                                                                    (SV.box b_4 35
                                                                      (SV.struct
                                                                        [SV.int IntKind.i64 n_4, SV.arr IntKind.u8 6 f, SV.struct [SV.int IntKind.i64 n_5, SV.arr IntKind.u8 16 f_4],
                                                                          SV.arr IntKind.u8 6 f_5, SV.struct [SV.int IntKind.i64 n_6, SV.arr IntKind.u8 16 f_6]])) =
                                                                  some
                                                                    (SV.box b_4 35
                                                                      (SV.struct
                                                                        [SV.int IntKind.i64 n_4, SV.arr IntKind.u8 6 f, SV.struct [SV.int IntKind.i64 n_5, SV.arr IntKind.u8 16 f_4],
                                                                          SV.arr IntKind.u8 6 f_5, SV.struct [SV.int IntKind.i64 n_6, SV.arr IntKind.u8 16 f_6]])) ∧
                                                                (b_1, 35) = (b_1, 35) ∧
                                                                  J 0 (fun (x : Nat) => 0) 0 (fun (x : Nat) => 0) (fun (x : Nat) => 0) 0 (fun (x : Nat) => 0) w1))
                                                          (some
                                                                (SV.box b_2 35
                                                                  (SV.struct
                                                                    [SV.int IntKind.i64 0, SV.arr IntKind.u8 6 fun (x : Nat) => 0,
                                                                      SV.struct [SV.int IntKind.i64 0, SV.arr IntKind.u8 16 fun (x : Nat) => 0],
                                                                      SV.arr IntKind.u8 6 fun (x : Nat) => 0,
                                                                      SV.struct [SV.int IntKind.i64 0, SV.arr IntKind.u8 16 fun (x : Nat) => 0]])) =
                                                              some
                                                                (SV.box b_2 35
                                                                  (SV.struct
                                                                    [SV.int IntKind.i64 0, SV.arr IntKind.u8 6 fun (x : Nat) => 0,
                                                                      SV.struct [SV.int IntKind.i64 0, SV.arr IntKind.u8 16 fun (x : Nat) => 0],
                                                                      SV.arr IntKind.u8 6 fun (x : Nat) => 0,
                                                                      SV.struct [SV.int IntKind.i64 0, SV.arr IntKind.u8 16 fun (x : Nat) => 0]])) ∧
                                                            some
                                                                  (SV.box b_4 35
                                                                    (SV.struct
                                                                      [SV.int IntKind.i64 n_4, SV.arr IntKind.u8 6 f, SV.struct [SV.int IntKind.i64 n_5, SV.arr IntKind.u8 16 f_4],
                                                                        SV.arr IntKind.u8 6 f_5, SV.struct [SV.int IntKind.i64 n_6, SV.arr IntKind.u8 16 f_6]])) =
                                                                some
                                                                  (SV.box b_4 35
                                                                    (SV.struct
                                                                      [SV.int IntKind.i64 n_4, SV.arr IntKind.u8 6 f, SV.struct [SV.int IntKind.i64 n_5, SV.arr IntKind.u8 16 f_4],
                                                                        SV.arr IntKind.u8 6 f_5, SV.struct [SV.int IntKind.i64 n_6, SV.arr IntKind.u8 16 f_6]])) ∧
                                                              (b_1, 35) = (b_1, 35) ∧
                                                                J 0 (fun (x : Nat) => 0) 0 (fun (x : Nat) => 0) (fun (x : Nat) => 0) 0 (fun (x : Nat) => 0) w1)))))))
theorem f23_of (b : Sl) (w : World) (R : SV → World → Prop) (h : vc23 b w R) : Ret Try.prog 23 [.slice b] w R :=
  have e : vc23 b w R = fnVC X Try.f23 a23 [.slice b] w R := by kernel_rfl
  fnVC_sound X_ok (n := a23) (e ▸ h) (by kernel_rfl) (by kernel_rfl) rfl rfl

def vc24 (a_0 : Int) (a_1 : Nat → Int) (a_2_0 : Int) (a_2_1 : Nat → Int) (a_3 : Nat → Int) (a_4_0 : Int) (a_4_1 : Nat → Int) (w : World) (R : SV → World → Prop) : Prop :=
  ∀ (b : Nat) (J : World → Prop),
    (∀ (w1 : World),
        (Ret Try.prog 47 [SV.arr IntKind.u8 6 a_1] w1 fun (r : SV) (w1_1 : World) =>
            ∃ (b_1 : Bool),
              r = SV.bool b_1 ∧
                Keeps [b] w1 w1_1 ∧
                  Br (!b_1) (R (SV.tuple [SV.slice { ptr := none, len := 0, cap := 0 }, SV.int IntKind.i64 58]) w1_1)
                    (∀ (J : World → Prop),
                      (∀ (w1 : World),
                          (∀ (b_2 : Nat) (w1_2 : World),
                              Upd [] [b_2] w1 w1_2 →
                                (World.heap w1_2)[b_2]? =
                                    some
                                      (Obj.cells
                                        {
                                          toList :=
                                            SV.cells
                                              (SV.struct
                                                [SV.int IntKind.u8 0, SV.int IntKind.u8 1, SV.int IntKind.u8 8, SV.int IntKind.u8 0, SV.int IntKind.u8 6, SV.int IntKind.u8 4,
                                                  SV.int IntKind.u8 0, SV.int IntKind.u8 (wr IntKind.u8 a_0)]) }
                                        5) →
                                  ∃ (I : Sl → Int → World → Prop),
                                    ∃ (M : Sl → Int → World → Nat),
                                      I { ptr := some { block := b_2, off := 0 }, len := 8, cap := 8 } 0 w1_2 ∧
                                        ∀ (s : Sl) (n : Int) (w1 : World),
                                          I s n w1 →
                                            Br (decide (n < 6))
                                              (Need (decide (0 ≤ n) && decide (n < 6))
                                                (∀ (b_3 : Nat) (w1_3 : World),
                                                  Upd [] [b_3] w1 w1_3 →
                                                    (World.heap w1_3)[b_3]? = some (Obj.cells { toList := SV.cells (SV.struct [SV.int IntKind.u8 (a_1 (Int.toNat n))]) } 5) →
                                                      Vc.Append 5 1 1 s { ptr := some { block := b_3, off := 0 }, len := 1, cap := 1 } [b] w1_3 fun (r : Sl) (w : World) =>
                                                        some
                                                              (SV.box b 35
                                                                (SV.struct
                                                                  [SV.int IntKind.i64 a_0, SV.arr IntKind.u8 6 a_1, SV.struct [SV.int IntKind.i64 a_2_0, SV.arr IntKind.u8 16 a_2_1],
                                                                    SV.arr IntKind.u8 6 a_3, SV.struct [SV.int IntKind.i64 a_4_0, SV.arr IntKind.u8 16 a_4_1]])) =
                                                            some
                                                              (SV.box b 35
                                                                (SV.struct
                                                                  [SV.int IntKind.i64 a_0, SV.arr IntKind.u8 6 a_1, SV.struct [SV.int IntKind.i64 a_2_0, SV.arr IntKind.u8 16 a_2_1],
                                                                    SV.arr IntKind.u8 6 a_3, SV.struct [SV.int IntKind.i64 a_4_0, SV.arr IntKind.u8 16 a_4_1]])) ∧
                                                          I r (wr IntKind.i64 (n + 1)) w ∧ M r (wr IntKind.i64 (n + 1)) w < M s n w1))
                                              (∀ (b_3 : Nat) (w1_3 : World),
                                                Upd [] [b_3] w1 w1_3 →
                                                  (World.heap w1_3)[b_3]? =
                                                      some
                                                        (Obj.cells
                                                          {
                                                            toList :=
                                                              SV.cells
                                                                (SV.struct
                                                                  [SV.int IntKind.u8 (a_2_1 0), SV.int IntKind.u8 (a_2_1 1), SV.int IntKind.u8 (a_2_1 2),
                                                                    SV.int IntKind.u8 (a_2_1 3)]) }
                                                          5) →
                                                    Vc.Append 5 1 1 s { ptr := some { block := b_3, off := 0 }, len := 4, cap := 4 } [b] w1_3 fun (r : Sl) (w : World) =>
                                                      ∃ (I : Sl → Int → World → Prop),
                                                        ∃ (M : Sl → Int → World → Nat),
                                                          I r 0 w ∧
                                                            ∀ (s : Sl) (n : Int) (w1 : World),
                                                              I s n w1 →
                                                                Br (decide (n < 6))
                                                                  (Need (decide (0 ≤ n) && decide (n < 6))
                                                                    (∀ (b_4 : Nat) (w1_4 : World),
                                                                      Upd [] [b_4] w1 w1_4 →
                                                                        (World.heap w1_4)[b_4]? =
                                                                            some (Obj.cells { toList := SV.cells (SV.struct [SV.int IntKind.u8 (a_3 (Int.toNat n))]) } 5) →
                                                                          Vc.Append 5 1 1 s { ptr := some { block := b_4, off := 0 }, len := 1, cap := 1 } [b] w1_4
                                                                            fun (r : Sl) (w : World) =>
                                                                            some
                                                                                  (SV.box b 35
                                                                                    (SV.struct
                                                                                      [SV.int IntKind.i64 a_0, SV.arr IntKind.u8 6 a_1,
                                                                                        SV.struct [SV.int IntKind.i64 a_2_0, SV.arr IntKind.u8 16 a_2_1], SV.arr IntKind.u8 6 a_3,
                                                                                        SV.struct [SV.int IntKind.i64 a_4_0, SV.arr IntKind.u8 16 a_4_1]])) =
                                                                                some
                                                                                  (SV.box b 35
                                                                                    (SV.struct
                                                                                      [SV.int IntKind.i64 a_0, SV.arr IntKind.u8 6 a_1,
                                                                                        SV.struct [SV.int IntKind.i64 a_2_0, SV.arr IntKind.u8 16 a_2_1], SV.arr IntKind.u8 6 a_3,
                                                                                        SV.struct [SV.int IntKind.i64 a_4_0, SV.arr IntKind.u8 16 a_4_1]])) ∧
                                                                              I r (wr IntKind.i64 (n + 1)) w ∧ M r (wr IntKind.i64 (n + 1)) w < M s n w1))
                                                                  (∀ (b_4 : Nat) (w1_4 : World),
                                                                    Upd [] [b_4] w1 w1_4 →
                                                                      (World.heap w1_4)[b_4]? =
                                                                          some
                                                                            (Obj.cells
                                                                              {
                                                                                toList :=
                                                                                  SV.cells
                                                                                    (SV.struct
                                                                                      [SV.int IntKind.u8 (a_4_1 0), SV.int IntKind.u8 (a_4_1 1), SV.int IntKind.u8 (a_4_1 2),
                                                                                        SV.int IntKind.u8 (a_4_1 3)]) }
                                                                              5) →
                                                                        Vc.Append 5 1 1 s { ptr := some { block := b_4, off := 0 }, len := 4, cap := 4 } [b] w1_4
                                                                          fun (r : Sl) (w : World) => R (SV.tuple [SV.slice r, SV.int IntKind.i64 0]) w))) →
                            J w1) →
                        Br (a_2_0 != 4) (R (SV.tuple [SV.slice { ptr := none, len := 0, cap := 0 }, SV.int IntKind.i64 20]) w1_1)
                          (Br (a_4_0 != 4) (R (SV.tuple [SV.slice { ptr := none, len := 0, cap := 0 }, SV.int IntKind.i64 20]) w1_1)
                            (Ret Try.prog 48 [SV.struct [SV.int IntKind.i64 a_2_0, SV.arr IntKind.u8 16 a_2_1]] w1_1 fun (r : SV) (w1 : World) =>
                              ∃ (b_2 : Bool),
                                r = SV.bool b_2 ∧
                                  Keeps [b] w1_1 w1 ∧
                                    Br (!b_2) (R (SV.tuple [SV.slice { ptr := none, len := 0, cap := 0 }, SV.int IntKind.i64 20]) w1)
                                      (Ret Try.prog 48 [SV.struct [SV.int IntKind.i64 a_4_0, SV.arr IntKind.u8 16 a_4_1]] w1 fun (r : SV) (w1_2 : World) =>
                                        ∃ (b_3 : Bool),
                                          r = SV.bool b_3 ∧
                                            Keeps [b] w1 w1_2 ∧
                                              Br (!b_3) (R (SV.tuple [SV.slice { ptr := none, len := 0, cap := 0 }, SV.int IntKind.i64 20]) w1_2)
                                                (some
                                                      (SV.box b 35
                                                        (SV.struct
                                                          [SV.int IntKind.i64 a_0, SV.arr IntKind.u8 6 a_1, SV.struct [SV.int IntKind.i64 a_2_0, SV.arr IntKind.u8 16 a_2_1],
                                                            SV.arr IntKind.u8 6 a_3, SV.struct [SV.int IntKind.i64 a_4_0, SV.arr IntKind.u8 16 a_4_1]])) =
                                                    some
                                                      (SV.box b 35
                                                        (SV.struct
                                                          [SV.int IntKind.i64 a_0, SV.arr IntKind.u8 6 a_1, SV.struct [SV.int IntKind.i64 a_2_0, SV.arr IntKind.u8 16 a_2_1],
                                                            SV.arr IntKind.u8 6 a_3, SV.struct [SV.int IntKind.i64 a_4_0, SV.arr IntKind.u8 16 a_4_1]])) ∧
                                                  J w1_2)))))) →
          J w1) →
      Br (a_0 != 1)
        (Br (a_0 != 2) (∀ (w1 : World), Upd [] [b] w w1 → R (SV.tuple [SV.slice { ptr := none, len := 0, cap := 0 }, SV.int IntKind.i64 57]) w1)
          (∀ (w1 : World),
            Upd [] [b] w w1 →
              some
                    (SV.box b 35
                      (SV.struct
                        [SV.int IntKind.i64 a_0, SV.arr IntKind.u8 6 a_1, SV.struct [SV.int IntKind.i64 a_2_0, SV.arr IntKind.u8 16 a_2_1], SV.arr IntKind.u8 6 a_3,
                          SV.struct [SV.int IntKind.i64 a_4_0, SV.arr IntKind.u8 16 a_4_1]])) =
                  some
                    (SV.box b 35
                      (SV.struct
                        [SV.int IntKind.i64 a_0, SV.arr IntKind.u8 6 a_1, SV.struct [SV.int IntKind.i64 a_2_0, SV.arr IntKind.u8 16 a_2_1], SV.arr IntKind.u8 6 a_3,
                          SV.struct [SV.int IntKind.i64 a_4_0, SV.arr IntKind.u8 16 a_4_1]])) ∧
                J w1))
        (∀ (w1 : World),
          Upd [] [b] w w1 →
            some
                  (SV.box b 35
                    (SV.struct
                      [SV.int IntKind.i64 a_0, SV.arr IntKind.u8 6 a_1, SV.struct [SV.int IntKind.i64 a_2_0, SV.arr IntKind.u8 16 a_2_1], SV.arr IntKind.u8 6 a_3,
                        SV.struct [SV.int IntKind.i64 a_4_0, SV.arr IntKind.u8 16 a_4_1]])) =
                some
                  (SV.box b 35
                    (SV.struct
                      [SV.int IntKind.i64 a_0, SV.arr IntKind.u8 6 a_1, SV.struct [SV.int IntKind.i64 a_2_0, SV.arr IntKind.u8 16 a_2_1], SV.arr IntKind.u8 6 a_3,
                        SV.struct [SV.int IntKind.i64 a_4_0, SV.arr IntKind.u8 16 a_4_1]])) ∧
              J w1)
theorem f24_of (a_0 : Int) (a_1 : Nat → Int) (a_2_0 : Int) (a_2_1 : Nat → Int) (a_3 : Nat → Int) (a_4_0 : Int) (a_4_1 : Nat → Int) (w : World) (R : SV → World → Prop) (h : vc24 a_0 a_1 a_2_0 a_2_1 a_3 a_4_0 a_4_1 w R) : Ret Try.prog 24 [.struct [.int .i64 a_0, .arr .u8 6 a_1, .struct [.int .i64 a_2_0, .arr .u8 16 a_2_1], .arr .u8 6 a_3, .struct [.int .i64 a_4_0, .arr .u8 16 a_4_1]]] w R :=
  have e : vc24 a_0 a_1 a_2_0 a_2_1 a_3 a_4_0 a_4_1 w R = fnVC X Try.f24 a24 [.struct [.int .i64 a_0, .arr .u8 6 a_1, .struct [.int .i64 a_2_0, .arr .u8 16 a_2_1], .arr .u8 6 a_3, .struct [.int .i64 a_4_0, .arr .u8 16 a_4_1]]] w R := by kernel_rfl
  fnVC_sound X_ok (n := a24) (e ▸ h) (by kernel_rfl) (by kernel_rfl) rfl rfl

def vc5 (b : Sl) (a_0 : Int) (a_1 : Nat → Int) (a_2_0 : Int) (a_2_1 : Nat → Int) (a_3 : Nat → Int) (a_4_0 : Int) (a_4_1 : Nat → Int) (w : World) (R : SV → World → Prop) : Prop :=
  ∀ (b_1 : Nat) (w1 : World),
    Upd [] [b_1] w w1 →
      Ret Try.prog 21 [] w1 fun (r : SV) (w1_1 : World) =>
        ∃ (n : Int),
          ∃ (f : Nat → Int),
            ∃ (n_1 : Int),
              ∃ (f_1 : Nat → Int),
                ∃ (f_2 : Nat → Int),
                  ∃ (n_2 : Int),
                    ∃ (f_3 : Nat → Int),
                      r =
                          SV.struct
                            [SV.int IntKind.i64 n, SV.arr IntKind.u8 6 f, SV.struct [SV.int IntKind.i64 n_1, SV.arr IntKind.u8 16 f_1], SV.arr IntKind.u8 6 f_2,
                              SV.struct [SV.int IntKind.i64 n_2, SV.arr IntKind.u8 16 f_3]] ∧
                        Keeps [b_1] w1 w1_1 ∧
                          Ret Try.prog 20
                            [SV.struct
                                [SV.int IntKind.i64 n, SV.arr IntKind.u8 6 f, SV.struct [SV.int IntKind.i64 n_1, SV.arr IntKind.u8 16 f_1], SV.arr IntKind.u8 6 f_2,
                                  SV.struct [SV.int IntKind.i64 n_2, SV.arr IntKind.u8 16 f_3]]]
                            w1_1 fun (r : SV) (w1 : World) =>
                            ∃ (s : Sl),
                              ∃ (n : Int),
                                r = SV.tuple [SV.slice s, SV.int IntKind.i64 n] ∧
                                  Keeps [b_1] w1_1 w1 ∧
                                    ∀ (J : World → Prop),
                                      (∀ (w1 : World),
                                          (Ret Try.prog 16 [SV.slice b] w1 fun (r : SV) (w1_2 : World) =>
                                              ∃ (s : Sl),
                                                ∃ (s_1 : Sl),
                                                  r = SV.tuple [SV.slice s, SV.slice s_1] ∧
                                                    Keeps [b_1] w1 w1_2 ∧
                                                      Ret Try.prog 22 [SV.slice s] w1_2 fun (r : SV) (w1 : World) =>
                                                        ∃ (n : Int),
                                                          ∃ (f : Nat → Int),
                                                            ∃ (n_3 : Int),
                                                              ∃ (f_4 : Nat → Int),
                                                                ∃ (f_5 : Nat → Int),
                                                                  ∃ (n_4 : Int),
                                                                    ∃ (f_6 : Nat → Int),
                                                                      ∃ (n_5 : Int),
                                                                        r =
                                                                            SV.tuple
                                                                              [SV.struct
                                                                                  [SV.int IntKind.i64 n, SV.arr IntKind.u8 6 f,
                                                                                    SV.struct [SV.int IntKind.i64 n_3, SV.arr IntKind.u8 16 f_4], SV.arr IntKind.u8 6 f_5,
                                                                                    SV.struct [SV.int IntKind.i64 n_4, SV.arr IntKind.u8 16 f_6]],
                                                                                SV.int IntKind.i64 n_5] ∧
                                                                          Keeps [b_1] w1_2 w1 ∧
                                                                            ∀ (b : Nat) (J : World → Prop),
                                                                              (∀ (w1 : World),
                                                                                  (∀ (J : World → Prop),
                                                                                      (∀ (w1 : World),
                                                                                          (Ret Try.prog 20
                                                                                              [SV.struct
                                                                                                  [SV.int IntKind.i64 a_0, SV.arr IntKind.u8 6 a_1,
                                                                                                    SV.struct [SV.int IntKind.i64 a_2_0, SV.arr IntKind.u8 16 a_2_1],
                                                                                                    SV.arr IntKind.u8 6 a_3,
                                                                                                    SV.struct [SV.int IntKind.i64 a_4_0, SV.arr IntKind.u8 16 a_4_1]]]
                                                                                              w1 fun (r : SV) (w1_3 : World) =>
                                                                                              ∃ (s : Sl),
                                                                                                ∃ (n : Int),
                                                                                                  r = SV.tuple [SV.slice s, SV.int IntKind.i64 n] ∧
                                                                                                    Keeps [b_1, b] w1 w1_3 ∧
                                                                                                      Br (n != 0) (R (SV.bool ((↑s.2 : Int) == 0)) w1_3)
                                                                                                        (Ret Try.prog 22 [SV.slice s] w1_3 fun (r : SV) (w1 : World) =>
                                                                                                          ∃ (n : Int),
                                                                                                            ∃ (f : Nat → Int),
                                                                                                              ∃ (n_6 : Int),
                                                                                                                ∃ (f_7 : Nat → Int),
                                                                                                                  ∃ (f_8 : Nat → Int),
                                                                                                                    ∃ (n_7 : Int),
                                                                                                                      ∃ (f_9 : Nat → Int),
                                                                                                                        ∃ (n_8 : Int),
                                                                                                                          r =
                                                                                                                              SV.tuple
                                                                                                                                [SV.struct
                                                                                                                                    [SV.int IntKind.i64 n, SV.arr IntKind.u8 6 f,
                                                                                                                                      SV.struct
                                                                                                                                        [SV.int IntKind.i64 n_6,
                                                                                                                                          SV.arr IntKind.u8 16 f_7],
                                                                                                                                      SV.arr IntKind.u8 6 f_8,
                                                                                                                                      SV.struct
                                                                                                                                        [SV.int IntKind.i64 n_7,
                                                                                                                                          SV.arr IntKind.u8 16 f_9]],
                                                                                                                                  SV.int IntKind.i64 n_8] ∧
                                                                                                                            Keeps [b_1, b] w1_3 w1 ∧
                                                                                                                              ∀ (b : Nat),
                                                                                                                                Br (n_8 == 0)
                                                                                                                                  (Br
                                                                                                                                    (n == a_0 &&
                                                                                                                                      (eqArr 6 f a_1 &&
                                                                                                                                        (n_6 == a_2_0 && eqArr 16 f_7 a_2_1 &&
                                                                                                                                          (eqArr 6 f_8 a_3 &&
                                                                                                                                            (n_7 == a_4_0 && eqArr 16 f_9 a_4_1)))))
                                                                                                                                    (∀ (w1_4 : World),
                                                                                                                                      Upd [] [b] w1 w1_4 →
                                                                                                                                        R (SV.bool ((↑s.2 : Int) == 28)) w1_4)
                                                                                                                                    (∀ (w1_4 : World),
                                                                                                                                      Upd [] [b] w1 w1_4 → R (SV.bool false) w1_4))
                                                                                                                                  (∀ (w1_4 : World),
                                                                                                                                    Upd [] [b] w1 w1_4 → R (SV.bool false) w1_4))) →
                                                                                            J w1) →
                                                                                        Br (n_5 == 0)
                                                                                          (Ret Try.prog 20
                                                                                            [SV.struct
                                                                                                [SV.int IntKind.i64 n, SV.arr IntKind.u8 6 f,
                                                                                                  SV.struct [SV.int IntKind.i64 n_3, SV.arr IntKind.u8 16 f_4],
                                                                                                  SV.arr IntKind.u8 6 f_5,
                                                                                                  SV.struct [SV.int IntKind.i64 n_4, SV.arr IntKind.u8 16 f_6]]]
                                                                                            w1 fun (r : SV) (w1_3 : World) =>
                                                                                            ∃ (s_2 : Sl),
                                                                                              ∃ (n_6 : Int),
                                                                                                r = SV.tuple [SV.slice s_2, SV.int IntKind.i64 n_6] ∧
                                                                                                  Keeps [b_1, b] w1 w1_3 ∧
                                                                                                    Br (n_6 != 0) (R (SV.bool false) w1_3)
                                                                                                      (Need (decide (28 ≤ (↑s.3 : Int)))
                                                                                                        (Ret Try.prog 19 [SV.slice s_2, SV.slice (Sl.sub s 1 0 28 s.3)] w1_3
                                                                                                          fun (r : SV) (w1 : World) =>
                                                                                                          ∃ (b_2 : Bool),
                                                                                                            r = SV.bool b_2 ∧
                                                                                                              Keeps [b_1, b] w1_3 w1 ∧
                                                                                                                Br (!b_2) (R (SV.bool false) w1)
                                                                                                                  (some
                                                                                                                        (SV.box b_1 35
                                                                                                                          (SV.struct
                                                                                                                            [SV.int IntKind.i64 a_0, SV.arr IntKind.u8 6 a_1,
                                                                                                                              SV.struct
                                                                                                                                [SV.int IntKind.i64 a_2_0,
                                                                                                                                  SV.arr IntKind.u8 16 a_2_1],
                                                                                                                              SV.arr IntKind.u8 6 a_3,
                                                                                                                              SV.struct
                                                                                                                                [SV.int IntKind.i64 a_4_0,
                                                                                                                                  SV.arr IntKind.u8 16 a_4_1]])) =
                                                                                                                      some
                                                                                                                        (SV.box b_1 35
                                                                                                                          (SV.struct
                                                                                                                            [SV.int IntKind.i64 a_0, SV.arr IntKind.u8 6 a_1,
                                                                                                                              SV.struct
                                                                                                                                [SV.int IntKind.i64 a_2_0,
                                                                                                                                  SV.arr IntKind.u8 16 a_2_1],
                                                                                                                              SV.arr IntKind.u8 6 a_3,
                                                                                                                              SV.struct
                                                                                                                                [SV.int IntKind.i64 a_4_0,
                                                                                                                                  SV.arr IntKind.u8 16 a_4_1]])) ∧
                                                                                                                    some
                                                                                                                          (SV.box b 35
                                                                                                                            (SV.struct
                                                                                                                              [SV.int IntKind.i64 n, SV.arr IntKind.u8 6 f,
                                                                                                                                SV.struct
                                                                                                                                  [SV.int IntKind.i64 n_3, SV.arr IntKind.u8 16 f_4],
                                                                                                                                SV.arr IntKind.u8 6 f_5,
                                                                                                                                SV.struct
                                                                                                                                  [SV.int IntKind.i64 n_4,
                                                                                                                                    SV.arr IntKind.u8 16 f_6]])) =
                                                                                                                        some
                                                                                                                          (SV.box b 35
                                                                                                                            (SV.struct
                                                                                                                              [SV.int IntKind.i64 n, SV.arr IntKind.u8 6 f,
                                                                                                                                SV.struct
                                                                                                                                  [SV.int IntKind.i64 n_3, SV.arr IntKind.u8 16 f_4],
                                                                                                                                SV.arr IntKind.u8 6 f_5,
                                                                                                                                SV.struct
                                                                                                                                  [SV.int IntKind.i64 n_4,
                                                                                                                                    SV.arr IntKind.u8 16 f_6]])) ∧
                                                                                                                      J w1))))
                                                                                          (some
                                                                                                (SV.box b_1 35
                                                                                                  (SV.struct
                                                                                                    [SV.int IntKind.i64 a_0, SV.arr IntKind.u8 6 a_1,
                                                                                                      SV.struct [SV.int IntKind.i64 a_2_0, SV.arr IntKind.u8 16 a_2_1],
                                                                                                      SV.arr IntKind.u8 6 a_3,
                                                                                                      SV.struct [SV.int IntKind.i64 a_4_0, SV.arr IntKind.u8 16 a_4_1]])) =
                                                                                              some
                                                                                                (SV.box b_1 35
                                                                                                  (SV.struct
                                                                                                    [SV.int IntKind.i64 a_0, SV.arr IntKind.u8 6 a_1,
                                                                                                      SV.struct [SV.int IntKind.i64 a_2_0, SV.arr IntKind.u8 16 a_2_1],
                                                                                                      SV.arr IntKind.u8 6 a_3,
                                                                                                      SV.struct [SV.int IntKind.i64 a_4_0, SV.arr IntKind.u8 16 a_4_1]])) ∧
                                                                                            some
                                                                                                  (SV.box b 35
                                                                                                    (SV.struct
                                                                                                      [SV.int IntKind.i64 n, SV.arr IntKind.u8 6 f,
                                                                                                        SV.struct [SV.int IntKind.i64 n_3, SV.arr IntKind.u8 16 f_4],
                                                                                                        SV.arr IntKind.u8 6 f_5,
                                                                                                        SV.struct [SV.int IntKind.i64 n_4, SV.arr IntKind.u8 16 f_6]])) =
                                                                                                some
                                                                                                  (SV.box b 35
                                                                                                    (SV.struct
                                                                                                      [SV.int IntKind.i64 n, SV.arr IntKind.u8 6 f,
                                                                                                        SV.struct [SV.int IntKind.i64 n_3, SV.arr IntKind.u8 16 f_4],
                                                                                                        SV.arr IntKind.u8 6 f_5,
                                                                                                        SV.struct [SV.int IntKind.i64 n_4, SV.arr IntKind.u8 16 f_6]])) ∧
                                                                                              J w1)) →
                                                                                    J w1) →
                                                                                Br (n_5 != 0)
                                                                                  (Br
                                                                                    (!(n == 0 &&
                                                                                        ((eqArr 6 f fun (x : Nat) => 0) &&
                                                                                          ((n_3 == 0 && eqArr 16 f_4 fun (x : Nat) => 0) &&
                                                                                            ((eqArr 6 f_5 fun (x : Nat) => 0) && (n_4 == 0 && eqArr 16 f_6 fun (x : Nat) => 0))))))
                                                                                    (∀ (w1_3 : World), Upd [] [b] w1 w1_3 → R (SV.bool false) w1_3)
                                                                                    (∀ (w1_3 : World),
                                                                                      Upd [] [b] w1 w1_3 →
                                                                                        some
                                                                                              (SV.box b_1 35
                                                                                                (SV.struct
                                                                                                  [SV.int IntKind.i64 a_0, SV.arr IntKind.u8 6 a_1,
                                                                                                    SV.struct [SV.int IntKind.i64 a_2_0, SV.arr IntKind.u8 16 a_2_1],
                                                                                                    SV.arr IntKind.u8 6 a_3,
                                                                                                    SV.struct [SV.int IntKind.i64 a_4_0, SV.arr IntKind.u8 16 a_4_1]])) =
                                                                                            some
                                                                                              (SV.box b_1 35
                                                                                                (SV.struct
                                                                                                  [SV.int IntKind.i64 a_0, SV.arr IntKind.u8 6 a_1,
                                                                                                    SV.struct [SV.int IntKind.i64 a_2_0, SV.arr IntKind.u8 16 a_2_1],
                                                                                                    SV.arr IntKind.u8 6 a_3,
                                                                                                    SV.struct [SV.int IntKind.i64 a_4_0, SV.arr IntKind.u8 16 a_4_1]])) ∧
                                                                                          some
                                                                                                (SV.box b 35
                                                                                                  (SV.struct
                                                                                                    [SV.int IntKind.i64 n, SV.arr IntKind.u8 6 f,
                                                                                                      SV.struct [SV.int IntKind.i64 n_3, SV.arr IntKind.u8 16 f_4],
                                                                                                      SV.arr IntKind.u8 6 f_5,
                                                                                                      SV.struct [SV.int IntKind.i64 n_4, SV.arr IntKind.u8 16 f_6]])) =
                                                                                              some
                                                                                                (SV.box b 35
                                                                                                  (SV.struct
                                                                                                    [SV.int IntKind.i64 n, SV.arr IntKind.u8 6 f,
                                                                                                      SV.struct [SV.int IntKind.i64 n_3, SV.arr IntKind.u8 16 f_4],
                                                                                                      SV.arr IntKind.u8 6 f_5,
                                                                                                      SV.struct [SV.int IntKind.i64 n_4, SV.arr IntKind.u8 16 f_6]])) ∧
                                                                                            J w1_3))
                                                                                  (∀ (w1_3 : World),
                                                                                    Upd [] [b] w1 w1_3 →
                                                                                      some
                                                                                            (SV.box b_1 35
                                                                                              (SV.struct
                                                                                                [SV.int IntKind.i64 a_0, SV.arr IntKind.u8 6 a_1,
                                                                                                  SV.struct [SV.int IntKind.i64 a_2_0, SV.arr IntKind.u8 16 a_2_1],
                                                                                                  SV.arr IntKind.u8 6 a_3,
                                                                                                  SV.struct [SV.int IntKind.i64 a_4_0, SV.arr IntKind.u8 16 a_4_1]])) =
                                                                                          some
                                                                                            (SV.box b_1 35
                                                                                              (SV.struct
                                                                                                [SV.int IntKind.i64 a_0, SV.arr IntKind.u8 6 a_1,
                                                                                                  SV.struct [SV.int IntKind.i64 a_2_0, SV.arr IntKind.u8 16 a_2_1],
                                                                                                  SV.arr IntKind.u8 6 a_3,
                                                                                                  SV.struct [SV.int IntKind.i64 a_4_0, SV.arr IntKind.u8 16 a_4_1]])) ∧
                                                                                        some
                                                                                              (SV.box b 35
                                                                                                (SV.struct
                                                                                                  [SV.int IntKind.i64 n, SV.arr IntKind.u8 6 f,
                                                                                                    SV.struct [SV.int IntKind.i64 n_3, SV.arr IntKind.u8 16 f_4],
                                                                                                    SV.arr IntKind.u8 6 f_5,
                                                                                                    SV.struct [SV.int IntKind.i64 n_4, SV.arr IntKind.u8 16 f_6]])) =
                                                                                            some
                                                                                              (SV.box b 35
                                                                                                (SV.struct
                                                                                                  [SV.int IntKind.i64 n, SV.arr IntKind.u8 6 f,
                                                                                                    SV.struct [SV.int IntKind.i64 n_3, SV.arr IntKind.u8 16 f_4],
                                                                                                    SV.arr IntKind.u8 6 f_5,
                                                                                                    SV.struct [SV.int IntKind.i64 n_4, SV.arr IntKind.u8 16 f_6]])) ∧
                                                                                          J w1_3)) →
                                            J w1) →
                                        Br (n != 0) (R (SV.bool false) w1)
                                          (Br ((↑s.2 : Int) != 28) (R (SV.bool false) w1)
                                            (some
                                                  (SV.box b_1 35
                                                    (SV.struct
                                                      [SV.int IntKind.i64 a_0, SV.arr IntKind.u8 6 a_1, SV.struct [SV.int IntKind.i64 a_2_0, SV.arr IntKind.u8 16 a_2_1],
                                                        SV.arr IntKind.u8 6 a_3, SV.struct [SV.int IntKind.i64 a_4_0, SV.arr IntKind.u8 16 a_4_1]])) =
                                                some
                                                  (SV.box b_1 35
                                                    (SV.struct
                                                      [SV.int IntKind.i64 a_0, SV.arr IntKind.u8 6 a_1, SV.struct [SV.int IntKind.i64 a_2_0, SV.arr IntKind.u8 16 a_2_1],
                                                        SV.arr IntKind.u8 6 a_3, SV.struct [SV.int IntKind.i64 a_4_0, SV.arr IntKind.u8 16 a_4_1]])) ∧
                                              J w1))
theorem f5_of (b : Sl) (a_0 : Int) (a_1 : Nat → Int) (a_2_0 : Int) (a_2_1 : Nat → Int) (a_3 : Nat → Int) (a_4_0 : Int) (a_4_1 : Nat → Int) (w : World) (R : SV → World → Prop) (h : vc5 b a_0 a_1 a_2_0 a_2_1 a_3 a_4_0 a_4_1 w R) : Ret Try.prog 5 [.slice b, .struct [.int .i64 a_0, .arr .u8 6 a_1, .struct [.int .i64 a_2_0, .arr .u8 16 a_2_1], .arr .u8 6 a_3, .struct [.int .i64 a_4_0, .arr .u8 16 a_4_1]]] w R :=
  have e : vc5 b a_0 a_1 a_2_0 a_2_1 a_3 a_4_0 a_4_1 w R = fnVC X Try.f5 a5 [.slice b, .struct [.int .i64 a_0, .arr .u8 6 a_1, .struct [.int .i64 a_2_0, .arr .u8 16 a_2_1], .arr .u8 6 a_3, .struct [.int .i64 a_4_0, .arr .u8 16 a_4_1]]] w R := by kernel_rfl
  fnVC_sound X_ok (n := a5) (e ▸ h) (by kernel_rfl) (by kernel_rfl) rfl rfl

end Go.Vc.S5
