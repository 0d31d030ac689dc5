import Derived.Test.YtlohkdkgpajkaaaDoorG2
import Derived.Test.YtlohkdkgpajkaaaDoorG3
import Derived.KernelRfl
open Go Go.Vc Go.Vc.S6 Go.Proofs
set_option maxRecDepth 100000
set_option linter.unusedVariables false
namespace Go.Vc.S6
def a1032 : Ann := (.seq .leaf (.cut [] [] (.seq .leaf (.cond .leaf .leaf)) (.seq (.seq .leaf (.block (.loop [(.t 5, (.int .i64))] [] (.seq (.seq .leaf (.cond .leaf .leaf)) (.seq (.block .leaf) .leaf))))) (.seq (.seq .leaf (.block (.loop [(.t 6, (.int .i64))] [] (.seq (.seq .leaf (.cond .leaf .leaf)) (.cut [] [] (.block (.cut [] [] (.seq .leaf (.cond .leaf .leaf)) (.drawK [] (.early 0 (.early 1 (.early 2 (.early 3 (.early 4 (.early 5 (.early 6 (.early 7 (.early 8 (.early 9 (.early 10 (.early 11 (.early 12 (.early 13 (.early 14 (.early 15 (.early 16 (.early 17 (.early 18 (.early 19 (.early 20 (.early 21 (.fork [(22, (.early 23 (.early 24 (.fork [(25, .done)]))))])))))))))))))))))))))))))) .leaf))))) (.seq .leaf (.seq .leaf .leaf))))))
def vc32 (r : Option Addr) (l : Sl) (w : World) (R : SV → World → Prop) : Prop :=
  ∀ (J : World → Prop),
    (∀ (w1 : World),
        (∃ (I : Int → World → Prop),
            ∃ (M : Int → World → Nat),
              I 0 w1 ∧
                ∀ (n : Int) (w1 : World),
                  I n w1 →
                    deref r fun (a : Addr) =>
                      ∃ (s : Sl),
                        World.cell? w1 a = some (Sl.val s) ∧
                          Br (decide (n < (↑s.2 : Int)))
                            (deref r fun (a : Addr) =>
                              ∃ (s : Sl),
                                World.cell? w1 a = some (Sl.val s) ∧
                                  Need (decide (0 ≤ n) && decide (n < (↑s.2 : Int)) && Option.isSome s.1)
                                    (Store w1 (Sl.at s 2 (Int.toNat n))
                                      (SV.cells (SV.struct [SV.int IntKind.i64 (wr IntKind.i64 (-500 - n)), SV.slice { ptr := none, len := 0, cap := 0 }])) [] fun (w1_1 : World) =>
                                      I (wr IntKind.i64 (n + 1)) w1_1 ∧ M (wr IntKind.i64 (n + 1)) w1_1 < M n w1))
                            (∃ (I : Int → World → Prop),
                              ∃ (M : Int → World → Nat),
                                I 0 w1 ∧
                                  ∀ (n : Int) (w1 : World),
                                    I n w1 →
                                      Br (decide (n < (↑l.2 : Int)))
                                        (∀ (J : World → Prop),
                                          (∀ (w1_1 : World), I (wr IntKind.i64 (n + 1)) w1_1 ∧ M (wr IntKind.i64 (n + 1)) w1_1 < M n w1 → J w1_1) →
                                            ∀ (J_1 : World → Prop),
                                              (∀ (w1 : World),
                                                  (∃ (bs : List Nat),
                                                      (∀ (b : Nat), b ∈ bs → b < List.length (World.heap w1).1) ∧
                                                        deref r fun (a : Addr) =>
                                                          Addr.block a ∈ bs ∧
                                                            ∃ (s : Sl),
                                                              World.cell? w1 a = some (Sl.val s) ∧
                                                                Need (decide (0 ≤ n) && decide (n < (↑l.2 : Int)) && Option.isSome l.1)
                                                                  (Addr.block (Sl.at l 2 (Int.toNat n)) ∈ bs ∧
                                                                    ∃ (n_1 : Int),
                                                                      World.cell? w1 (Sl.at l 2 (Int.toNat n)) = some (Value.int IntKind.i64 n_1) ∧
                                                                        deref r fun (a : Addr) =>
                                                                          Addr.block (Addr.add a 2) ∈ bs ∧
                                                                            ∃ (s_1 : Sl),
                                                                              World.cell? w1 (Addr.add a 2) = some (Sl.val s_1) ∧
                                                                                Need (decide (0 ≤ n) && decide (n < (↑s_1.2 : Int)) && Option.isSome s_1.1)
                                                                                  (Addr.block (Sl.at s_1 1 (Int.toNat n)) ∈ bs ∧
                                                                                    ∃ (p : Option Addr),
                                                                                      World.cell? w1 (Sl.at s_1 1 (Int.toNat n)) = some (Value.pointer p) ∧
                                                                                        Need (decide (0 ≤ n) && decide (n < (↑l.2 : Int)) && Option.isSome l.1)
                                                                                          (Addr.block (Addr.add (Sl.at l 2 (Int.toNat n)) 1) ∈ bs ∧
                                                                                            ∃ (s_2 : Sl),
                                                                                              World.cell? w1 (Addr.add (Sl.at l 2 (Int.toNat n)) 1) = some (Sl.val s_2) ∧
                                                                                                ∀ (w1_1 : World),
                                                                                                  Upd [] [] w1 w1_1 →
                                                                                                    Ret Tryd.prog 31 [SV.ptr p, SV.slice s_2] w1_1 fun (r : SV) (w1_2 : World) =>
                                                                                                      ∃ (s_3 : Sl),
                                                                                                        r = SV.slice s_3 ∧
                                                                                                          Kept bs w1 w1_2 ∧
                                                                                                            Need (decide (0 ≤ n) && decide (n < (↑s.2 : Int)) && Option.isSome s.1)
                                                                                                              (Store w1_2 (Sl.at s 2 (Int.toNat n))
                                                                                                                (SV.cells (SV.struct [SV.int IntKind.i64 n_1, SV.slice s_3])) []
                                                                                                                fun (w1 : World) => J w1))))) →
                                                    J_1 w1) →
                                                deref r fun (a : Addr) =>
                                                  ∃ (s : Sl),
                                                    World.cell? w1 (Addr.add a 2) = some (Sl.val s) ∧
                                                      Br (decide ((↑s.2 : Int) ≤ n))
                                                        (deref r fun (a : Addr) =>
                                                          ∃ (s : Sl),
                                                            World.cell? w1 (Addr.add a 2) = some (Sl.val s) ∧
                                                              ∀ (b : Nat) (w1_1 : World),
                                                                Upd [] [b] w1 w1_1 →
                                                                  (World.heap w1_1)[b]? =
                                                                      some
                                                                        (Obj.cells
                                                                          { toList := SV.cells (SV.struct [SV.slice { ptr := none, len := 0, cap := 0 }, SV.int IntKind.i64 0]) }
                                                                          52) →
                                                                    ∀ (b_1 : Nat) (w1 : World),
                                                                      Upd [] [b_1] w1_1 w1 →
                                                                        (World.heap w1)[b_1]? =
                                                                            some (Obj.cells { toList := SV.cells (SV.struct [SV.ptr (some { block := b, off := 0 })]) } 50) →
                                                                          Vc.Append 50 1 8 s { ptr := some { block := b_1, off := 0 }, len := 1, cap := 1 } [] w1
                                                                            fun (r_1 : Sl) (w : World) =>
                                                                            deref r fun (a : Addr) => Store w (Addr.add a 2) (SV.cells (SV.slice r_1)) [] fun (w1 : World) => J_1 w1)
                                                        (J_1 w1))
                                        (deref r fun (a : Addr) =>
                                          Store w1 (Addr.add a 1) (SV.cells (SV.int IntKind.i64 (↑l.2 : Int))) [] fun (w1 : World) =>
                                            deref r fun (a : Addr) =>
                                              ∃ (s : Sl),
                                                World.cell? w1 a = some (Sl.val s) ∧
                                                  Need (decide (0 ≤ (↑l.2 : Int)) && decide ((↑l.2 : Int) ≤ (↑s.3 : Int)))
                                                    (R (SV.slice (Sl.sub s 2 0 (Int.toNat (↑l.2 : Int)) s.3)) w1)))) →
          J w1) →
      deref r fun (a : Addr) =>
        ∃ (s : Sl),
          World.cell? w a = some (Sl.val s) ∧
            Br (decide ((↑s.2 : Int) < wr IntKind.i64 (wr IntKind.i64 (2 * (↑l.2 : Int)) + 9)))
              (Need
                (decide (0 ≤ wr IntKind.i64 (wr IntKind.i64 (2 * (↑l.2 : Int)) + 20)) &&
                      decide (wr IntKind.i64 (wr IntKind.i64 (2 * (↑l.2 : Int)) + 20) ≤ wr IntKind.i64 (wr IntKind.i64 (2 * (↑l.2 : Int)) + 20)) &&
                    decide (wr IntKind.i64 (wr IntKind.i64 (2 * (↑l.2 : Int)) + 20) ≤ 281474976710656) &&
                  decide (32 * wr IntKind.i64 (wr IntKind.i64 (2 * (↑l.2 : Int)) + 20) ≤ 281474976710656))
                (∀ (b : Nat) (w1 : World),
                  Upd [] [b] w w1 →
                    (World.heap w1)[b]? =
                        some
                          (Obj.cells { toList := zerosOf (Ty.struct false [Ty.int IntKind.i64, Ty.slice 5]) (Int.toNat (wr IntKind.i64 (wr IntKind.i64 (2 * (↑l.2 : Int)) + 20))) }
                            37) →
                      deref r fun (a : Addr) =>
                        Store w1 a
                          (SV.cells
                            (SV.slice
                              { ptr := some { block := b, off := 0 }, len := Int.toNat (wr IntKind.i64 (wr IntKind.i64 (2 * (↑l.2 : Int)) + 20)),
                                cap := Int.toNat (wr IntKind.i64 (wr IntKind.i64 (2 * (↑l.2 : Int)) + 20)) }))
                          [] fun (w1 : World) => J w1))
              (J w)
theorem f32_of (r : Option Addr) (l : Sl) (w : World) (R : SV → World → Prop) (hV : vc32 r l w R) : Ret Tryd.prog 32 [.ptr r, .slice l] w R :=
  have e : vc32 r l w R = fnVC X Tryd.f32 a1032 [.ptr r, .slice l] w R := by kernel_rfl
  fnVC_sound X_ok (n := a1032) (e ▸ hV) (by kernel_rfl) (by kernel_rfl) rfl rfl

def vc38 (r : Option Addr) (l : Sl) (w : World) (R : SV → World → Prop) : Prop :=
  ∀ (J : World → Prop),
    (∀ (w1 : World),
        (∃ (I : Int → World → Prop),
            ∃ (M : Int → World → Nat),
              I 0 w1 ∧
                ∀ (n : Int) (w1 : World),
                  I n w1 →
                    Br (decide (n < (↑l.2 : Int)))
                      (deref r fun (a : Addr) =>
                        ∃ (s : Sl),
                          World.cell? w1 (Addr.add a 2) = some (Sl.val s) ∧
                            Need (decide (0 ≤ n) && decide (n < (↑s.2 : Int)) && Option.isSome s.1)
                              (∃ (p : Option Addr),
                                World.cell? w1 (Sl.at s 1 (Int.toNat n)) = some (Value.pointer p) ∧
                                  Need (decide (0 ≤ n) && decide (n < (↑l.2 : Int)) && Option.isSome l.1)
                                    (∃ (s : Sl),
                                      World.cell? w1 (Addr.add (Sl.at l 2 (Int.toNat n)) 1) = some (Sl.val s) ∧
                                        ∀ (w1_1 : World),
                                          Upd [] [] w1 w1_1 →
                                            Ret Tryd.prog 37 [SV.ptr p, SV.slice s] w1_1 fun (r : SV) (w1_2 : World) =>
                                              ∃ (b : Bool),
                                                r = SV.bool b ∧ Br (!b) (R (SV.bool false) w1_2) (I (wr IntKind.i64 (n + 1)) w1_2 ∧ M (wr IntKind.i64 (n + 1)) w1_2 < M n w1))))
                      (∃ (I : Int → World → Prop),
                        ∃ (M : Int → World → Nat),
                          I (↑l.2 : Int) w1 ∧
                            ∀ (n : Int) (w1 : World),
                              I n w1 →
                                deref r fun (a : Addr) =>
                                  ∃ (s : Sl),
                                    World.cell? w1 a = some (Sl.val s) ∧
                                      Br (decide (n < (↑s.2 : Int)))
                                        (∀ (J : World → Prop),
                                          (∀ (w1_1 : World), I (wr IntKind.i64 (n + 1)) w1_1 ∧ M (wr IntKind.i64 (n + 1)) w1_1 < M n w1 → J w1_1) →
                                            deref r fun (a : Addr) =>
                                              ∃ (s : Sl),
                                                World.cell? w1 a = some (Sl.val s) ∧
                                                  Need (decide (0 ≤ n) && decide (n < (↑s.2 : Int)) && Option.isSome s.1)
                                                    (∃ (n_1 : Int),
                                                      World.cell? w1 (Sl.at s 2 (Int.toNat n)) = some (Value.int IntKind.i64 n_1) ∧
                                                        Br (n_1 != wr IntKind.i64 (-500 - n)) (R (SV.bool false) w1)
                                                          (deref r fun (a : Addr) =>
                                                            ∃ (s : Sl),
                                                              World.cell? w1 a = some (Sl.val s) ∧
                                                                Need (decide (0 ≤ n) && decide (n < (↑s.2 : Int)) && Option.isSome s.1)
                                                                  (∃ (s_1 : Sl),
                                                                    World.cell? w1 (Addr.add (Sl.at s 2 (Int.toNat n)) 1) = some (Sl.val s_1) ∧
                                                                      Br ((↑s_1.2 : Int) != 0) (R (SV.bool false) w1) (J w1)))))
                                        (R (SV.bool true) w1))) →
          J w1) →
      deref r fun (a : Addr) =>
        ∃ (n : Int),
          World.cell? w (Addr.add a 1) = some (Value.int IntKind.i64 n) ∧
            Br (n != (↑l.2 : Int)) (∀ (w1 : World), Upd [] [] w w1 → R (SV.bool false) w1)
              (deref r fun (a : Addr) =>
                ∃ (s : Sl),
                  World.cell? w a = some (Sl.val s) ∧
                    deref r fun (a : Addr) =>
                      ∃ (n : Int),
                        World.cell? w (Addr.add a 1) = some (Value.int IntKind.i64 n) ∧
                          Need (decide (0 ≤ n) && decide (n ≤ (↑s.3 : Int)))
                            (∀ (w1 : World),
                              Upd [] [] w w1 →
                                Ret Tryd.prog 51 [SV.slice (Sl.sub s 2 0 (Int.toNat n) s.3), SV.slice l] w1 fun (r : SV) (w1 : World) =>
                                  ∃ (b : Bool), r = SV.bool b ∧ Br (!b) (R (SV.bool false) w1) (J w1)))
theorem f38_of (r : Option Addr) (l : Sl) (w : World) (R : SV → World → Prop) (hV : vc38 r l w R) : Ret Tryd.prog 38 [.ptr r, .slice l] w R :=
  have e : vc38 r l w R = fnVC X Tryd.f38 a38 [.ptr r, .slice l] w R := by kernel_rfl
  fnVC_sound X_ok (n := a38) (e ▸ hV) (by kernel_rfl) (by kernel_rfl) rfl rfl

def vc41 (data : Sl) (l : Sl) (t : Nat → Int) (w : World) (R : SV → World → Prop) : Prop :=
  ∀ (b : Nat) (J : World → Prop),
    (∀ (w1 : World),
        Br ((↑l.2 : Int) == 0) (R (SV.tuple []) w1)
            (Ret Tryd.prog 54 [SV.int IntKind.i64 (t 0), SV.int IntKind.i64 (↑l.2 : Int)] w1 fun (r : SV) (w1_1 : World) =>
              ∃ (n : Int),
                r = SV.int IntKind.i64 n ∧
                  Keeps [b] w1 w1_1 ∧
                    Need (decide (0 ≤ n) && decide (n < (↑l.2 : Int)) && Option.isSome l.1)
                      (∃ (s : Sl),
                        World.cell? w1_1 (Addr.add (Sl.at l 2 (Int.toNat n)) 1) = some (Sl.val s) ∧
                          Br (decide ((↑s.2 : Int) > 0))
                            (∀ (w1 : World),
                              Upd [] [] w1_1 w1 →
                                Ret Tryd.prog 54 [SV.int IntKind.i64 (t 0), SV.int IntKind.i64 (↑s.2 : Int)] w1 fun (r : SV) (w1_2 : World) =>
                                  ∃ (n : Int),
                                    r = SV.int IntKind.i64 n ∧
                                      Keeps [b] w1 w1_2 ∧
                                        Upd [] [] w1_1 w1_2 ∧
                                          Need (decide (0 ≤ n) && decide (n < (↑s.2 : Int)) && Option.isSome s.1)
                                            (Store w1_2 (Sl.at s 1 (Int.toNat n)) (SV.cells (SV.int IntKind.u8 (wr IntKind.u8 (t 1)))) [b] fun (w1 : World) => R (SV.tuple []) w1))
                            (R (SV.tuple []) w1_1))) →
          J w1) →
      Br (decide ((↑data.2 : Int) > 0))
        (∀ (w1 : World),
          Upd [] [b] w w1 →
            Ret Tryd.prog 54 [SV.int IntKind.i64 (t 0), SV.int IntKind.i64 (↑data.2 : Int)] w1 fun (r : SV) (w1_1 : World) =>
              ∃ (n : Int),
                r = SV.int IntKind.i64 n ∧
                  Keeps [b] w1 w1_1 ∧
                    Upd [] [] w w1_1 ∧
                      Need (decide (0 ≤ n) && decide (n < (↑data.2 : Int)) && Option.isSome data.1)
                        (Store w1_1 (Sl.at data 1 (Int.toNat n)) (SV.cells (SV.int IntKind.u8 (wr IntKind.u8 (t 1)))) [b] fun (w1 : World) =>
                          some (SV.box b 70 (SV.arr IntKind.i64 2 t)) = some (SV.box b 70 (SV.arr IntKind.i64 2 t)) ∧ J w1))
        (∀ (w1 : World), Upd [] [b] w w1 → some (SV.box b 70 (SV.arr IntKind.i64 2 t)) = some (SV.box b 70 (SV.arr IntKind.i64 2 t)) ∧ J w1)
theorem f41_of (data : Sl) (l : Sl) (t : Nat → Int) (w : World) (R : SV → World → Prop) (hV : vc41 data l t w R) : Ret Tryd.prog 41 [.slice data, .slice l, .arr .i64 2 t] w R :=
  have e : vc41 data l t w R = fnVC X Tryd.f41 a41 [.slice data, .slice l, .arr .i64 2 t] w R := by kernel_rfl
  fnVC_sound X_ok (n := a41) (e ▸ hV) (by kernel_rfl) (by kernel_rfl) rfl rfl

end Go.Vc.S6
