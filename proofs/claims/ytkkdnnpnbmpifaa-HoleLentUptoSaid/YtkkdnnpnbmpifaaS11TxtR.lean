import Derived.Test.YtkkdnnpnbmpifaaG3
import Derived.KernelRfl
open Go Go.Vc Go.Vc.S11 Go.Proofs
set_option maxRecDepth 100000
set_option linter.unusedVariables false
namespace Go.Vc.S11
def vc35 (max : Int) (w : World) (R : SV → World → Prop) : Prop :=
  ∀ (J : World → Prop),
    (∀ (w1 : World),
        (∀ (b : Nat) (w1_1 : World),
            Upd [] [b] w1 w1_1 →
              (World.heap w1_1)[b]? =
                  some
                    (Obj.cells
                      {
                        toList :=
                          SV.cells
                            (SV.struct
                              [SV.int IntKind.i64 max, SV.slice { ptr := none, len := 0, cap := 0 }, SV.slice { ptr := none, len := 0, cap := 0 }, SV.int IntKind.i64 (-1),
                                SV.slice { ptr := none, len := 0, cap := 0 }]) }
                      90) →
                R (SV.tuple [SV.ptr (some { block := b, off := 0 }), SV.int IntKind.i64 0]) w1_1) →
          J w1) →
      Br (decide (max < 1)) (R (SV.tuple [SV.ptr none, SV.int IntKind.i64 1]) w) (Br (decide (max > 65535)) (R (SV.tuple [SV.ptr none, SV.int IntKind.i64 1]) w) (J w))
theorem f35_of (max : Int) (w : World) (R : SV → World → Prop) (hV : vc35 max w R) : Ret Try.prog 35 [.int .i64 max] w R :=
  have e : vc35 max w R = fnVC X Try.f35 a35 [.int .i64 max] w R := by kernel_rfl
  fnVC_sound X_ok (n := a35) (e ▸ hV) (by kernel_rfl) (by kernel_rfl) rfl rfl

def vc41 (h : Option Addr) (off : Int) (n : Int) (more : Bool) (w : World) (R : SV → World → Prop) : Prop :=
  Br (decide (n > 65535)) (R (SV.int IntKind.i64 2) w)
    (∀ (J : World → Prop),
      (∀ (w1 : World),
          Br (n == 0) (R (SV.int IntKind.i64 111) w1)
              (∀ (J : World → Prop),
                (∀ (w1 : World),
                    (∀ (J : Bool → World → Prop),
                        (∀ (b : Bool) (w1 : World),
                            Br b (R (SV.int IntKind.i64 114) w1)
                                (∀ (J : Bool → World → Prop),
                                  (∀ (b : Bool) (w1 : World),
                                      Br b (R (SV.int IntKind.i64 113) w1)
                                          (deref h fun (a : Addr) =>
                                            ∃ (n_1 : Int),
                                              World.cell? w1 (Addr.add a 3) = some (Value.int IntKind.i64 n_1) ∧
                                                Br (decide (n_1 < 0))
                                                  (Br (!more)
                                                    (deref h fun (a : Addr) =>
                                                      ∃ (s : Sl),
                                                        World.cell? w1 (Addr.add a 1) = some (Sl.val s) ∧
                                                          Br (decide ((↑s.2 : Int) > wr IntKind.i64 (off + n))) (R (SV.int IntKind.i64 114) w1) (R (SV.int IntKind.i64 0) w1))
                                                    (R (SV.int IntKind.i64 0) w1))
                                                  (R (SV.int IntKind.i64 0) w1)) →
                                        J b w1) →
                                    deref h fun (a : Addr) =>
                                      ∃ (n_1 : Int),
                                        World.cell? w1 (Addr.add a 3) = some (Value.int IntKind.i64 n_1) ∧
                                          Br (decide (n_1 ≥ 0))
                                            (Br more
                                              (deref h fun (a : Addr) =>
                                                ∃ (n_2 : Int), World.cell? w1 (Addr.add a 3) = some (Value.int IntKind.i64 n_2) ∧ J (decide (wr IntKind.i64 (off + n) > n_2)) w1)
                                              (J false w1))
                                            (J false w1)) →
                              J b w1) →
                          deref h fun (a : Addr) =>
                            ∃ (n_1 : Int),
                              World.cell? w1 (Addr.add a 3) = some (Value.int IntKind.i64 n_1) ∧
                                Br (decide (n_1 ≥ 0))
                                  (Br (!more)
                                    (deref h fun (a : Addr) =>
                                      ∃ (n_2 : Int), World.cell? w1 (Addr.add a 3) = some (Value.int IntKind.i64 n_2) ∧ J (wr IntKind.i64 (off + n) != n_2) w1)
                                    (J false w1))
                                  (J false w1)) →
                      J w1) →
                  deref h fun (a : Addr) =>
                    ∃ (n_1 : Int),
                      World.cell? w1 a = some (Value.int IntKind.i64 n_1) ∧
                        Br (decide (off > n_1)) (R (SV.int IntKind.i64 112) w1)
                          (deref h fun (a : Addr) =>
                            ∃ (n_2 : Int),
                              World.cell? w1 a = some (Value.int IntKind.i64 n_2) ∧ Br (decide (wr IntKind.i64 (off + n) > n_2)) (R (SV.int IntKind.i64 112) w1) (J w1))) →
            J w1) →
        Br (decide (off < 0)) (R (SV.int IntKind.i64 110) w)
          (Br (Int.tmod off 8 != 0) (R (SV.int IntKind.i64 110) w) (Br more (Br (Int.tmod n 8 != 0) (R (SV.int IntKind.i64 110) w) (J w)) (J w))))
theorem f41_of (h : Option Addr) (off : Int) (n : Int) (more : Bool) (w : World) (R : SV → World → Prop) (hV : vc41 h off n more w R) : Ret Try.prog 41 [.ptr h, .int .i64 off, .int .i64 n, .bool more] w R :=
  have e : vc41 h off n more w R = fnVC X Try.f41 a41 [.ptr h, .int .i64 off, .int .i64 n, .bool more] w R := by kernel_rfl
  fnVC_sound X_ok (n := a41) (e ▸ hV) (by kernel_rfl) (by kernel_rfl) rfl rfl

def vc42 (h : Option Addr) (w : World) (R : SV → World → Prop) : Prop :=
  deref h fun (a : Addr) =>
    ∃ (n : Int),
      World.cell? w (Addr.add a 3) = some (Value.int IntKind.i64 n) ∧
        Br (decide (n ≥ 0)) (deref h fun (a : Addr) => ∃ (n : Int), World.cell? w (Addr.add a 3) = some (Value.int IntKind.i64 n) ∧ R (SV.int IntKind.i64 n) w)
          (deref h fun (a : Addr) => ∃ (n : Int), World.cell? w a = some (Value.int IntKind.i64 n) ∧ R (SV.int IntKind.i64 n) w)
theorem f42_of (h : Option Addr) (w : World) (R : SV → World → Prop) (hV : vc42 h w R) : Ret Try.prog 42 [.ptr h] w R :=
  have e : vc42 h w R = fnVC X Try.f42 a42 [.ptr h] w R := by kernel_rfl
  fnVC_sound X_ok (n := a42) (e ▸ hV) (by kernel_rfl) (by kernel_rfl) rfl rfl

def vc43 (h : Option Addr) (i : Int) (w : World) (R : SV → World → Prop) : Prop :=
  deref h fun (a : Addr) =>
    ∃ (s : Sl),
      World.cell? w (Addr.add a 1) = some (Sl.val s) ∧
        Br (decide (i < (↑s.2 : Int)))
          (deref h fun (a : Addr) =>
            ∃ (s : Sl),
              World.cell? w (Addr.add a 1) = some (Sl.val s) ∧
                Need (decide (0 ≤ i) && decide (i < (↑s.2 : Int)) && Option.isSome s.1)
                  (∃ (b : Bool), World.cell? w (Sl.at s 1 (Int.toNat i)) = some (Value.bool b) ∧ R (SV.bool b) w))
          (R (SV.bool false) w)
theorem f43_of (h : Option Addr) (i : Int) (w : World) (R : SV → World → Prop) (hV : vc43 h i w R) : Ret Try.prog 43 [.ptr h, .int .i64 i] w R :=
  have e : vc43 h i w R = fnVC X Try.f43 a43 [.ptr h, .int .i64 i] w R := by kernel_rfl
  fnVC_sound X_ok (n := a43) (e ▸ hV) (by kernel_rfl) (by kernel_rfl) rfl rfl

def vc29 (h : Option Addr) (w : World) (R : SV → World → Prop) : Prop :=
  ∃ (I : Sl → Int → World → Prop),
    ∃ (M : Sl → Int → World → Nat),
      I { ptr := none, len := 0, cap := 0 } 0 w ∧
        ∀ (s : Sl) (n : Int) (w1 : World),
          I s n w1 →
            Ret Try.prog 42 [SV.ptr h] w1 fun (r : SV) (w1_1 : World) =>
              ∃ (n_1 : Int),
                r = SV.int IntKind.i64 n_1 ∧
                  Br (decide (n < n_1))
                    (∀ (J : Sl → World → Prop),
                      (∀ (s_1 : Sl) (w1_2 : World), I s_1 (wr IntKind.i64 (n + 1)) w1_2 ∧ M s_1 (wr IntKind.i64 (n + 1)) w1_2 < M s n w1 → J s_1 w1_2) →
                        Ret Try.prog 43 [SV.ptr h, SV.int IntKind.i64 n] w1_1 fun (r : SV) (w1 : World) =>
                          ∃ (b : Bool),
                            r = SV.bool b ∧
                              Br b (J s w1)
                                (Br (n == 0)
                                  (∀ (b : Nat) (w1_2 : World),
                                    Upd [] [b] w1 w1_2 →
                                      (World.heap w1_2)[b]? =
                                          some
                                            (Obj.cells { toList := SV.cells (SV.struct [SV.arr IntKind.i64 2 (fset (fset (fun (x : Nat) => 0) 0 n) 1 (wr IntKind.i64 (n + 1)))]) }
                                              29) →
                                        Vc.Append 29 2 16 s { ptr := some { block := b, off := 0 }, len := 1, cap := 1 } [] w1_2 fun (r : Sl) (w : World) => J r w)
                                  (Ret Try.prog 43 [SV.ptr h, SV.int IntKind.i64 (wr IntKind.i64 (n - 1))] w1 fun (r : SV) (w1 : World) =>
                                    ∃ (b : Bool),
                                      r = SV.bool b ∧
                                        Br b
                                          (∀ (b : Nat) (w1_2 : World),
                                            Upd [] [b] w1 w1_2 →
                                              (World.heap w1_2)[b]? =
                                                  some
                                                    (Obj.cells
                                                      { toList := SV.cells (SV.struct [SV.arr IntKind.i64 2 (fset (fset (fun (x : Nat) => 0) 0 n) 1 (wr IntKind.i64 (n + 1)))]) }
                                                      29) →
                                                Vc.Append 29 2 16 s { ptr := some { block := b, off := 0 }, len := 1, cap := 1 } [] w1_2 fun (r : Sl) (w : World) => J r w)
                                          (Need (decide (0 ≤ wr IntKind.i64 ((↑s.2 : Int) - 1)) && decide (wr IntKind.i64 ((↑s.2 : Int) - 1) < (↑s.2 : Int)) && Option.isSome s.1)
                                            (Store w1 (Addr.add (Sl.at s 2 (Int.toNat (wr IntKind.i64 ((↑s.2 : Int) - 1)))) 1)
                                              (SV.cells (SV.int IntKind.i64 (wr IntKind.i64 (n + 1)))) [] fun (w1 : World) => J s w1)))))
                    (R (SV.slice s) w1_1)
theorem f29_of (h : Option Addr) (w : World) (R : SV → World → Prop) (hV : vc29 h w R) : Ret Try.prog 29 [.ptr h] w R :=
  have e : vc29 h w R = fnVC X Try.f29 a29 [.ptr h] w R := by kernel_rfl
  fnVC_sound X_ok (n := a29) (e ▸ hV) (by kernel_rfl) (by kernel_rfl) rfl rfl

def vc39 (h : Option Addr) (w : World) (R : SV → World → Prop) : Prop :=
  ∃ (I : Int → Int → World → Prop),
    ∃ (M : Int → Int → World → Nat),
      I 0 0 w ∧
        ∀ (n n_1 : Int) (w1 : World),
          I n n_1 w1 →
            deref h fun (a : Addr) =>
              ∃ (s : Sl),
                World.cell? w1 (Addr.add a 1) = some (Sl.val s) ∧
                  Br (decide (n_1 < (↑s.2 : Int)))
                    (∀ (J : Int → World → Prop),
                      (∀ (n_2 : Int) (w1_1 : World), I n_2 (wr IntKind.i64 (n_1 + 1)) w1_1 ∧ M n_2 (wr IntKind.i64 (n_1 + 1)) w1_1 < M n n_1 w1 → J n_2 w1_1) →
                        deref h fun (a : Addr) =>
                          ∃ (s : Sl),
                            World.cell? w1 (Addr.add a 1) = some (Sl.val s) ∧
                              Need (decide (0 ≤ n_1) && decide (n_1 < (↑s.2 : Int)) && Option.isSome s.1)
                                (∃ (b : Bool), World.cell? w1 (Sl.at s 1 (Int.toNat n_1)) = some (Value.bool b) ∧ Br b (J (wr IntKind.i64 (n + 1)) w1) (J n w1)))
                    (R (SV.int IntKind.i64 n) w1)
theorem f39_of (h : Option Addr) (w : World) (R : SV → World → Prop) (hV : vc39 h w R) : Ret Try.prog 39 [.ptr h] w R :=
  have e : vc39 h w R = fnVC X Try.f39 a39 [.ptr h] w R := by kernel_rfl
  fnVC_sound X_ok (n := a39) (e ▸ hV) (by kernel_rfl) (by kernel_rfl) rfl rfl

def vc37 (h : Option Addr) (w : World) (R : SV → World → Prop) : Prop :=
  deref h fun (a : Addr) =>
    ∃ (n : Int),
      World.cell? w (Addr.add a 3) = some (Value.int IntKind.i64 n) ∧
        Br (decide (n < 0)) (R (SV.tuple [SV.int IntKind.i64 0, SV.bool false]) w)
          (deref h fun (a : Addr) => ∃ (n : Int), World.cell? w (Addr.add a 3) = some (Value.int IntKind.i64 n) ∧ R (SV.tuple [SV.int IntKind.i64 n, SV.bool true]) w)
theorem f37_of (h : Option Addr) (w : World) (R : SV → World → Prop) (hV : vc37 h w R) : Ret Try.prog 37 [.ptr h] w R :=
  have e : vc37 h w R = fnVC X Try.f37 a37 [.ptr h] w R := by kernel_rfl
  fnVC_sound X_ok (n := a37) (e ▸ hV) (by kernel_rfl) (by kernel_rfl) rfl rfl

def vc38 (h : Option Addr) (w : World) (R : SV → World → Prop) : Prop :=
  deref h fun (a : Addr) =>
    ∃ (n : Int),
      World.cell? w (Addr.add a 3) = some (Value.int IntKind.i64 n) ∧
        Br (decide (n ≥ 0))
          (deref h fun (a : Addr) =>
            ∃ (n : Int),
              World.cell? w (Addr.add a 3) = some (Value.int IntKind.i64 n) ∧
                ∀ (w1 : World),
                  Upd [] [] w w1 → Ret Try.prog 39 [SV.ptr h] w1 fun (r : SV) (w1 : World) => ∃ (n_1 : Int), r = SV.int IntKind.i64 n_1 ∧ Upd [] [] w w1 ∧ R (SV.bool (n_1 == n)) w1)
          (∀ (w1 : World), Upd [] [] w w1 → R (SV.bool false) w1)
theorem f38_of (h : Option Addr) (w : World) (R : SV → World → Prop) (hV : vc38 h w R) : Ret Try.prog 38 [.ptr h] w R :=
  have e : vc38 h w R = fnVC X Try.f38 a38 [.ptr h] w R := by kernel_rfl
  fnVC_sound X_ok (n := a38) (e ▸ hV) (by kernel_rfl) (by kernel_rfl) rfl rfl

def vc28 (h : Option Addr) (w : World) (R : SV → World → Prop) : Prop :=
  Ret Try.prog 38 [SV.ptr h] w fun (r : SV) (w1 : World) =>
    ∃ (b : Bool),
      r = SV.bool b ∧
        Br (!b) (R (SV.tuple [SV.slice { ptr := none, len := 0, cap := 0 }, SV.bool false]) w1)
          (deref h fun (a : Addr) =>
            ∃ (s : Sl),
              World.cell? w1 (Addr.add a 2) = some (Sl.val s) ∧
                Vc.Append 5 1 1 { ptr := none, len := 0, cap := 0 } s [] w1 fun (r : Sl) (w : World) => R (SV.tuple [SV.slice r, SV.bool true]) w)
theorem f28_of (h : Option Addr) (w : World) (R : SV → World → Prop) (hV : vc28 h w R) : Ret Try.prog 28 [.ptr h] w R :=
  have e : vc28 h w R = fnVC X Try.f28 a28 [.ptr h] w R := by kernel_rfl
  fnVC_sound X_ok (n := a28) (e ▸ hV) (by kernel_rfl) (by kernel_rfl) rfl rfl

def vc26 (h : Option Addr) (off : Int) (data : Sl) (more : Bool) (w : World) (R : SV → World → Prop) : Prop := ∀ (b : Nat) (w1 : World), Upd [] [b] w w1
  → Ret Try.prog 41 [SV.ptr h, SV.int IntKind.i64 off, SV.int IntKind.i64 (↑data.2 : Int), SV.bool more] w1 fun (r : SV) (w1_1 : World) => ∃ (n : Int), r
  = SV.int IntKind.i64 n ∧ Keeps [b] w1 w1_1 ∧ Br (n != 0) (∀ (w1 : World), Upd [b] [] w1_1 w1 → R (SV.tuple [SV.struct [SV.int IntKind.i64 0, SV.int IntKind.i64
  0, SV.bool false], SV.int IntKind.i64 n]) w1) (∃ (I : World → Prop), ∃ (M : World → Nat), I w1_1 ∧ ∀ (w1 : World), I w1 → deref h fun (a : Addr) => ∃ (s
  : Sl), World.cell? w1 (Addr.add a 1) = some (Sl.val s) ∧ Br (decide ((↑s.2 : Int) < wr IntKind.i64 (off + (↑data.2 : Int)))) (deref h fun (a : Addr) =>
  ∃ (s : Sl), World.cell? w1 (Addr.add a 1) = some (Sl.val s) ∧ ∀ (b_1 : Nat) (w1_2 : World), Upd [] [b_1] w1 w1_2 → (World.heap w1_2)[b_1]? = some (Obj.cells
  { toList := SV.cells (SV.struct [SV.bool false]) } 4) → Vc.Append 4 1 1 s { ptr := some { block := b_1, off := 0 }, len := 1, cap := 1 } [b] w1_2 fun (r
  : Sl) (w : World) => deref h fun (a : Addr) => Store w (Addr.add a 1) (SV.cells (SV.slice r)) [b] fun (w1_3 : World) => deref h fun (a : Addr) => ∃ (s :
  Sl), World.cell? w1_3 (Addr.add a 2) = some (Sl.val s) ∧ ∀ (b_2 : Nat) (w1_4 : World), Upd [] [b_2] w1_3 w1_4 → (World.heap w1_4)[b_2]? = some (Obj.cells
  { toList := SV.cells (SV.struct [SV.int IntKind.u8 0]) } 5) → Vc.Append 5 1 1 s { ptr := some { block := b_2, off := 0 }, len := 1, cap := 1 } [b] w1_4
  fun (r : Sl) (w : World) => deref h fun (a : Addr) => Store w (Addr.add a 2) (SV.cells (SV.slice r)) [b] fun (w1_5 : World) => some (SV.box b 31 (SV.struct
  [SV.int IntKind.i64 0, SV.int IntKind.i64 0, SV.bool false])) = some (SV.box b 31 (SV.struct [SV.int IntKind.i64 0, SV.int IntKind.i64 0, SV.bool false]))
  ∧ I w1_5 ∧ M w1_5 < M w1) (∀ (b_1 : Nat), ∃ (I : Bool → Int → Int → Int → Bool → World → Prop), ∃ (M : Bool → Int → Int → Int → Bool → World → Nat), (∀
  (w1_2 : World), Upd [] [b_1] w1 w1_2 → I true 0 0 0 false w1_2) ∧ ∀ (b_2 : Bool) (n n_1 n_2 : Int) (b_3 : Bool) (w1 : World), I b_2 n n_1 n_2 b_3 w1 → Br
  (decide (n < (↑data.2 : Int))) (∀ (J : Bool → Int → Int → Bool → World → Prop), (∀ (b_4 : Bool) (n_3 n_4 : Int) (b_5 : Bool) (w1_2 : World), some (SV.box
  b 31 (SV.struct [SV.int IntKind.i64 0, SV.int IntKind.i64 0, SV.bool false])) = some (SV.box b 31 (SV.struct [SV.int IntKind.i64 0, SV.int IntKind.i64 0,
  SV.bool false])) ∧ (b_1, 31) = (b_1, 31) ∧ I b_4 (wr IntKind.i64 (n + 1)) n_3 n_4 b_5 w1_2 ∧ M b_4 (wr IntKind.i64 (n + 1)) n_3 n_4 b_5 w1_2 < M b_2 n n_1
  n_2 b_3 w1 → J b_4 n_3 n_4 b_5 w1_2) → deref h fun (a : Addr) => ∃ (s : Sl), World.cell? w1 (Addr.add a 1) = some (Sl.val s) ∧ Need (decide (0 ≤ wr IntKind.i64
  (off + n)) && decide (wr IntKind.i64 (off + n) < (↑s.2 : Int)) && Option.isSome s.1) (∃ (b_4 : Bool), World.cell? w1 (Sl.at s 1 (Int.toNat (wr IntKind.i64
  (off + n)))) = some (Value.bool b_4) ∧ Br b_4 (∀ (w1_2 : World), Upd [b_1] [] w1 w1_2 → Br b_2 (deref h fun (a : Addr) => ∃ (s : Sl), World.cell? w1_2 (Addr.add
  a 2) = some (Sl.val s) ∧ Need (decide (0 ≤ wr IntKind.i64 (off + n)) && decide (wr IntKind.i64 (off + n) < (↑s.2 : Int)) && Option.isSome s.1) (∃ (n_3 :
  Int), World.cell? w1_2 (Sl.at s 1 (Int.toNat (wr IntKind.i64 (off + n)))) = some (Value.int IntKind.u8 n_3) ∧ Need (decide (0 ≤ n) && decide (n < (↑data.2
  : Int)) && Option.isSome data.1) (∃ (n_4 : Int), World.cell? w1_2 (Sl.at data 1 (Int.toNat n)) = some (Value.int IntKind.u8 n_4) ∧ ∀ (w1 : World), Upd []
  [] w1_2 w1 → some (SV.box b 31 (SV.struct [SV.int IntKind.i64 0, SV.int IntKind.i64 0, SV.bool false])) = some (SV.box b 31 (SV.struct [SV.int IntKind.i64
  0, SV.int IntKind.i64 0, SV.bool false])) ∧ (b_1, 31) = (b_1, 31) ∧ J (n_3 == n_4) n_1 (wr IntKind.i64 (n_2 + 1)) b_3 w1))) (∀ (w1 : World), Upd [] [] w1_2
  w1 → some (SV.box b 31 (SV.struct [SV.int IntKind.i64 0, SV.int IntKind.i64 0, SV.bool false])) = some (SV.box b 31 (SV.struct [SV.int IntKind.i64 0, SV.int
  IntKind.i64 0, SV.bool false])) ∧ (b_1, 31) = (b_1, 31) ∧ J false n_1 (wr IntKind.i64 (n_2 + 1)) b_3 w1)) (deref h fun (a : Addr) => ∀ (w1_2 : World), Upd
  [b_1] [] w1 w1_2 → ∃ (s : Sl), World.cell? w1_2 (Addr.add a 1) = some (Sl.val s) ∧ Need (decide (0 ≤ wr IntKind.i64 (off + n)) && decide (wr IntKind.i64
  (off + n) < (↑s.2 : Int)) && Option.isSome s.1) (Store w1_2 (Sl.at s 1 (Int.toNat (wr IntKind.i64 (off + n)))) (SV.cells (SV.bool true)) [b, b_1] fun (w1
  : World) => deref h fun (a : Addr) => ∃ (s : Sl), World.cell? w1 (Addr.add a 2) = some (Sl.val s) ∧ Need (decide (0 ≤ n) && decide (n < (↑data.2 : Int))
  && Option.isSome data.1) (∃ (n_3 : Int), World.cell? w1 (Sl.at data 1 (Int.toNat n)) = some (Value.int IntKind.u8 n_3) ∧ Need (decide (0 ≤ wr IntKind.i64
  (off + n)) && decide (wr IntKind.i64 (off + n) < (↑s.2 : Int)) && Option.isSome s.1) (∀ (w1_3 : World), Upd [] [] w1 w1_3 → Store w1_3 (Sl.at s 1 (Int.toNat
  (wr IntKind.i64 (off + n)))) (SV.cells (SV.int IntKind.u8 n_3)) [b, b_1] fun (w1 : World) => some (SV.box b 31 (SV.struct [SV.int IntKind.i64 0, SV.int
  IntKind.i64 0, SV.bool false])) = some (SV.box b 31 (SV.struct [SV.int IntKind.i64 0, SV.int IntKind.i64 0, SV.bool false])) ∧ (b_1, 31) = (b_1, 31) ∧ J
  b_2 (wr IntKind.i64 (n_1 + 1)) n_2 b_3 w1)))))) (∃ (I : Int → Int → Int → Bool → World → Prop), ∃ (M : Int → Int → Int → Bool → World → Nat), I 0 n_1 n_2
  b_3 w1 ∧ ∀ (n n_3 n_4 : Int) (b_4 : Bool) (w1 : World), I n n_3 n_4 b_4 w1 → deref h fun (a : Addr) => ∃ (s : Sl), World.cell? w1 (Addr.add a 4) = some
  (Sl.val s) ∧ Br (decide (n < (↑s.2 : Int))) (∀ (J : Int → Int → Bool → World → Prop), (∀ (n_5 n_6 : Int) (b_5 : Bool) (w1_2 : World), some (SV.box b 31
  (SV.struct [SV.int IntKind.i64 0, SV.int IntKind.i64 0, SV.bool false])) = some (SV.box b 31 (SV.struct [SV.int IntKind.i64 0, SV.int IntKind.i64 0, SV.bool
  false])) ∧ (b_1, 31) = (b_1, 31) ∧ I (wr IntKind.i64 (n + 1)) n_5 n_6 b_5 w1_2 ∧ M (wr IntKind.i64 (n + 1)) n_5 n_6 b_5 w1_2 < M n n_3 n_4 b_4 w1 → J n_5
  n_6 b_5 w1_2) → deref h fun (a : Addr) => ∃ (s : Sl), World.cell? w1 (Addr.add a 4) = some (Sl.val s) ∧ Need (decide (0 ≤ n) && decide (n < (↑s.2 : Int))
  && Option.isSome s.1) (∃ (n_5 : Int), World.cell? w1 (Sl.at s 3 (Int.toNat n)) = some (Value.int IntKind.i64 n_5) ∧ ∃ (n_6 : Int), World.cell? w1 (Addr.add
  (Sl.at s 3 (Int.toNat n)) 1) = some (Value.int IntKind.i64 n_6) ∧ ∃ (b_5 : Bool), World.cell? w1 (Addr.add (Sl.at s 3 (Int.toNat n)) 2) = some (Value.bool
  b_5) ∧ ∀ (b_6 : Nat), Br (n_5 == off) (Br (n_6 == (↑data.2 : Int)) (Br (b_5 == more) (Br b_2 (∀ (w1_2 : World), Upd [b_1] [b_6] w1 w1_2 → some (SV.box b
  31 (SV.struct [SV.int IntKind.i64 0, SV.int IntKind.i64 0, SV.bool false])) = some (SV.box b 31 (SV.struct [SV.int IntKind.i64 0, SV.int IntKind.i64 0,
  SV.bool false])) ∧ (b_1, 31) = (b_1, 31) ∧ J n_3 n_4 true w1_2) (∀ (w1_2 : World), Upd [] [b_6] w1 w1_2 → some (SV.box b 31 (SV.struct [SV.int IntKind.i64
  0, SV.int IntKind.i64 0, SV.bool false])) = some (SV.box b 31 (SV.struct [SV.int IntKind.i64 0, SV.int IntKind.i64 0, SV.bool false])) ∧ (b_1, 31) = (b_1,
  31) ∧ J n_3 n_4 b_4 w1_2)) (∀ (w1_2 : World), Upd [] [b_6] w1 w1_2 → some (SV.box b 31 (SV.struct [SV.int IntKind.i64 0, SV.int IntKind.i64 0, SV.bool false]))
  = some (SV.box b 31 (SV.struct [SV.int IntKind.i64 0, SV.int IntKind.i64 0, SV.bool false])) ∧ (b_1, 31) = (b_1, 31) ∧ J n_3 n_4 b_4 w1_2)) (∀ (w1_2 : World),
  Upd [] [b_6] w1 w1_2 → some (SV.box b 31 (SV.struct [SV.int IntKind.i64 0, SV.int IntKind.i64 0, SV.bool false])) = some (SV.box b 31 (SV.struct [SV.int
  IntKind.i64 0, SV.int IntKind.i64 0, SV.bool false])) ∧ (b_1, 31) = (b_1, 31) ∧ J n_3 n_4 b_4 w1_2)) (∀ (w1_2 : World), Upd [] [b_6] w1 w1_2 → some (SV.box
  b 31 (SV.struct [SV.int IntKind.i64 0, SV.int IntKind.i64 0, SV.bool false])) = some (SV.box b 31 (SV.struct [SV.int IntKind.i64 0, SV.int IntKind.i64 0,
  SV.bool false])) ∧ (b_1, 31) = (b_1, 31) ∧ J n_3 n_4 b_4 w1_2))) (deref h fun (a : Addr) => ∃ (s : Sl), World.cell? w1 (Addr.add a 4) = some (Sl.val s)
  ∧ ∀ (b_5 : Nat) (w1_2 : World), Upd [] [b_5] w1 w1_2 → (World.heap w1_2)[b_5]? = some (Obj.cells { toList := SV.cells (SV.struct [SV.struct [SV.int IntKind.i64 off, SV.int IntKind.i64 (↑data.2 : Int), SV.bool more]]) }
  92) → Vc.Append 92 3 24 s { ptr := some { block := b_5, off := 0 }, len := 1, cap := 1 } [b, b_1] w1_2 fun (r : Sl) (w : World) => deref h fun (a : Addr)
  => Store w (Addr.add a 4) (SV.cells (SV.slice r)) [b, b_1] fun (w1 : World) => ∀ (J : World → Prop), (∀ (w1 : World), (∀ (w1_3 : World), Upd [b] [] w1 w1_3
  → R (SV.tuple [SV.struct [SV.int IntKind.i64 n_3, SV.int IntKind.i64 n_4, SV.bool b_4], SV.int IntKind.i64 0]) w1_3) → J w1) → Br (!more) (deref h fun (a
  : Addr) => Store w1 (Addr.add a 3) (SV.cells (SV.int IntKind.i64 (wr IntKind.i64 (off + (↑data.2 : Int))))) [b, b_1] fun (w1 : World) => some (SV.box b
  31 (SV.struct [SV.int IntKind.i64 0, SV.int IntKind.i64 0, SV.bool false])) = some (SV.box b 31 (SV.struct [SV.int IntKind.i64 0, SV.int IntKind.i64 0,
  SV.bool false])) ∧ some (SV.box b_1 31 (SV.struct [SV.int IntKind.i64 n_3, SV.int IntKind.i64 n_4, SV.bool b_4])) = some (SV.box b_1 31 (SV.struct [SV.int
  IntKind.i64 n_3, SV.int IntKind.i64 n_4, SV.bool b_4])) ∧ J w1) (some (SV.box b 31 (SV.struct [SV.int IntKind.i64 0, SV.int IntKind.i64 0, SV.bool false]))
  = some (SV.box b 31 (SV.struct [SV.int IntKind.i64 0, SV.int IntKind.i64 0, SV.bool false])) ∧ some (SV.box b_1 31 (SV.struct [SV.int IntKind.i64 n_3, SV.int
  IntKind.i64 n_4, SV.bool b_4])) = some (SV.box b_1 31 (SV.struct [SV.int IntKind.i64 n_3, SV.int IntKind.i64 n_4, SV.bool b_4])) ∧ J w1)))))
theorem f26_of (h : Option Addr) (off : Int) (data : Sl) (more : Bool) (w : World) (R : SV → World → Prop) (hV : vc26 h off data more w R) : Ret Try.prog 26 [.ptr h, .int .i64 off, .slice data, .bool more] w R :=
  have e : vc26 h off data more w R = fnVC X Try.f26 a26 [.ptr h, .int .i64 off, .slice data, .bool more] w R := by kernel_rfl
  fnVC_sound X_ok (n := a26) (e ▸ hV) (by kernel_rfl) (by kernel_rfl) rfl rfl

end Go.Vc.S11
