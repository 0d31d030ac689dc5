import Derived.Test.YtncgcdicadibbaaAnnr2
import Derived.Test.YtncgcdicadibbaaNum
import Derived.KernelRfl
open Go Go.Vc Go.Vc.S2 Go.Proofs
set_option maxRecDepth 100000
set_option linter.unusedVariables false
namespace Go.Vc.S2
def vc12 (src_0 : Int) (src_1 : Nat → Int) (dst_0 : Int) (dst_1 : Nat → Int) (proto : Int) (n : Int) (w : World) (R : SV → World → Prop) : Prop :=
  ∀ (b b_1 b_2 : Nat) (w1 : World),
    Upd [] [b_2, b_1, b] w w1 →
      Ret Try.prog 27
        [SV.struct [SV.int IntKind.i64 src_0, SV.arr IntKind.u8 16 src_1], SV.struct [SV.int IntKind.i64 dst_0, SV.arr IntKind.u8 16 dst_1], SV.int IntKind.i64 proto,
          SV.int IntKind.i64 n]
        w1 fun (r : SV) (w1_1 : World) =>
        ∃ (s : Sl),
          ∃ (n_1 : Int),
            r = SV.tuple [SV.slice s, SV.int IntKind.i64 n_1] ∧
              Keeps [b, b_1, b_2] w1 w1_1 ∧
                Ret Try.prog 27
                  [SV.struct [SV.int IntKind.i64 4, SV.arr IntKind.u8 16 fun (x : Nat) => 0], SV.struct [SV.int IntKind.i64 4, SV.arr IntKind.u8 16 fun (x : Nat) => 0],
                    SV.int IntKind.i64 17, SV.int IntKind.i64 9]
                  w1_1 fun (r : SV) (w1 : World) =>
                  ∃ (s_1 : Sl),
                    ∃ (n_2 : Int),
                      r = SV.tuple [SV.slice s_1, SV.int IntKind.i64 n_2] ∧
                        Keeps [b, b_1, b_2] w1_1 w1 ∧
                          ∃ (I : Sl → Int → World → Prop),
                            ∃ (M : Sl → Int → World → Nat),
                              I { ptr := none, len := 0, cap := 0 } 0 w1 ∧
                                ∀ (s_2 : Sl) (n_3 : Int) (w1 : World),
                                  I s_2 n_3 w1 →
                                    Br (decide (n_3 < 2))
                                      (∀ (J : Sl → World → Prop),
                                        (∀ (s : Sl) (w1_2 : World),
                                            some (SV.box b 41 (SV.struct [SV.int IntKind.i64 src_0, SV.arr IntKind.u8 16 src_1])) =
                                                  some (SV.box b 41 (SV.struct [SV.int IntKind.i64 src_0, SV.arr IntKind.u8 16 src_1])) ∧
                                                some (SV.box b_1 41 (SV.struct [SV.int IntKind.i64 dst_0, SV.arr IntKind.u8 16 dst_1])) =
                                                    some (SV.box b_1 41 (SV.struct [SV.int IntKind.i64 dst_0, SV.arr IntKind.u8 16 dst_1])) ∧
                                                  some (SV.box b_2 41 (SV.struct [SV.int IntKind.i64 4, SV.arr IntKind.u8 16 fun (x : Nat) => 0])) =
                                                      some (SV.box b_2 41 (SV.struct [SV.int IntKind.i64 4, SV.arr IntKind.u8 16 fun (x : Nat) => 0])) ∧
                                                    I s (wr IntKind.i64 (n_3 + 1)) w1_2 ∧ M s (wr IntKind.i64 (n_3 + 1)) w1_2 < M s_2 n_3 w1 →
                                              J s w1_2) →
                                          Ret Try.prog 26
                                            [SV.struct [SV.int IntKind.i64 src_0, SV.arr IntKind.u8 16 src_1], SV.struct [SV.int IntKind.i64 dst_0, SV.arr IntKind.u8 16 dst_1],
                                              SV.int IntKind.i64 proto, SV.int IntKind.i64 n]
                                            w1 fun (r : SV) (w1_2 : World) =>
                                            ∃ (s_3 : Sl),
                                              ∃ (n_4 : Int),
                                                r = SV.tuple [SV.slice s_3, SV.int IntKind.i64 n_4] ∧
                                                  Keeps [b, b_1, b_2] w1 w1_2 ∧
                                                    Ret Try.prog 26
                                                      [SV.struct [SV.int IntKind.i64 src_0, SV.arr IntKind.u8 16 src_1],
                                                        SV.struct [SV.int IntKind.i64 dst_0, SV.arr IntKind.u8 16 dst_1], SV.int IntKind.i64 proto, SV.int IntKind.i64 n]
                                                      w1_2 fun (r : SV) (w1 : World) =>
                                                      ∃ (s_4 : Sl),
                                                        ∃ (n : Int),
                                                          r = SV.tuple [SV.slice s_4, SV.int IntKind.i64 n] ∧
                                                            Keeps [b, b_1, b_2] w1_2 w1 ∧
                                                              Ret Try.prog 26
                                                                [SV.struct [SV.int IntKind.i64 4, SV.arr IntKind.u8 16 fun (x : Nat) => 0],
                                                                  SV.struct [SV.int IntKind.i64 4, SV.arr IntKind.u8 16 fun (x : Nat) => 0], SV.int IntKind.i64 17,
                                                                  SV.int IntKind.i64 9]
                                                                w1 fun (r : SV) (w1_3 : World) =>
                                                                ∃ (s_5 : Sl),
                                                                  ∃ (n : Int),
                                                                    r = SV.tuple [SV.slice s_5, SV.int IntKind.i64 n] ∧
                                                                      Keeps [b, b_1, b_2] w1 w1_3 ∧
                                                                        ∀ (J_1 : World → Prop),
                                                                          (∀ (w1 : World),
                                                                              (∀ (b_3 : Nat) (w1_4 : World),
                                                                                  Upd [] [b_3] w1 w1_4 →
                                                                                    (World.heap w1_4)[b_3]? =
                                                                                        some
                                                                                          (Obj.cells { toList := SV.cells (SV.struct [SV.slice s_3, SV.slice s_4, SV.slice s_5]) }
                                                                                            24) →
                                                                                      Vc.Append 24 1 24 s_2 { ptr := some { block := b_3, off := 0 }, len := 3, cap := 3 }
                                                                                        [b, b_1, b_2] w1_4 fun (r : Sl) (w : World) =>
                                                                                        some (SV.box b 41 (SV.struct [SV.int IntKind.i64 src_0, SV.arr IntKind.u8 16 src_1])) =
                                                                                            some (SV.box b 41 (SV.struct [SV.int IntKind.i64 src_0, SV.arr IntKind.u8 16 src_1])) ∧
                                                                                          some (SV.box b_1 41 (SV.struct [SV.int IntKind.i64 dst_0, SV.arr IntKind.u8 16 dst_1])) =
                                                                                              some
                                                                                                (SV.box b_1 41 (SV.struct [SV.int IntKind.i64 dst_0, SV.arr IntKind.u8 16 dst_1])) ∧
                                                                                            some
                                                                                                  (SV.box b_2 41
                                                                                                    (SV.struct [SV.int IntKind.i64 4, SV.arr IntKind.u8 16 fun (x : Nat) => 0])) =
                                                                                                some
                                                                                                  (SV.box b_2 41
                                                                                                    (SV.struct [SV.int IntKind.i64 4, SV.arr IntKind.u8 16 fun (x : Nat) => 0])) ∧
                                                                                              J r w) →
                                                                                J_1 w1) →
                                                                            Br (n_4 != n_1) (R (SV.bool false) w1_3)
                                                                              (Ret Try.prog 22 [SV.slice s_3, SV.slice s] w1_3 fun (r : SV) (w1 : World) =>
                                                                                ∃ (b_3 : Bool),
                                                                                  r = SV.bool b_3 ∧
                                                                                    Keeps [b, b_1, b_2] w1_3 w1 ∧
                                                                                      Br (!b_3) (R (SV.bool false) w1)
                                                                                        (Ret Try.prog 22 [SV.slice s_4, SV.slice s] w1 fun (r : SV) (w1_4 : World) =>
                                                                                          ∃ (b_4 : Bool),
                                                                                            r = SV.bool b_4 ∧
                                                                                              Keeps [b, b_1, b_2] w1 w1_4 ∧
                                                                                                Br (!b_4) (R (SV.bool false) w1_4)
                                                                                                  (Br (n != n_2) (R (SV.bool false) w1_4)
                                                                                                    (Ret Try.prog 22 [SV.slice s_5, SV.slice s_1] w1_4 fun (r : SV) (w1 : World) =>
                                                                                                      ∃ (b_5 : Bool),
                                                                                                        r = SV.bool b_5 ∧
                                                                                                          Keeps [b, b_1, b_2] w1_4 w1 ∧
                                                                                                            Br (!b_5) (R (SV.bool false) w1)
                                                                                                              (some
                                                                                                                    (SV.box b 41
                                                                                                                      (SV.struct
                                                                                                                        [SV.int IntKind.i64 src_0, SV.arr IntKind.u8 16 src_1])) =
                                                                                                                  some
                                                                                                                    (SV.box b 41
                                                                                                                      (SV.struct
                                                                                                                        [SV.int IntKind.i64 src_0, SV.arr IntKind.u8 16 src_1])) ∧
                                                                                                                some
                                                                                                                      (SV.box b_1 41
                                                                                                                        (SV.struct
                                                                                                                          [SV.int IntKind.i64 dst_0, SV.arr IntKind.u8 16 dst_1])) =
                                                                                                                    some
                                                                                                                      (SV.box b_1 41
                                                                                                                        (SV.struct
                                                                                                                          [SV.int IntKind.i64 dst_0, SV.arr IntKind.u8 16 dst_1])) ∧
                                                                                                                  some
                                                                                                                        (SV.box b_2 41
                                                                                                                          (SV.struct
                                                                                                                            [SV.int IntKind.i64 4,
                                                                                                                              SV.arr IntKind.u8 16 fun (x : Nat) => 0])) =
                                                                                                                      some
                                                                                                                        (SV.box b_2 41
                                                                                                                          (SV.struct
                                                                                                                            [SV.int IntKind.i64 4,
                                                                                                                              SV.arr IntKind.u8 16 fun (x : Nat) => 0])) ∧
                                                                                                                    J_1 w1))))))
                                      (Ret Try.prog 38 [SV.slice s_2] w1 fun (r : SV) (w1_2 : World) =>
                                        ∃ (b_3 : Bool),
                                          r = SV.bool b_3 ∧
                                            Keeps [b, b_1, b_2] w1 w1_2 ∧
                                              Br (!b_3) (R (SV.bool false) w1_2)
                                                (Ret Try.prog 26
                                                  [SV.struct [SV.int IntKind.i64 src_0, SV.arr IntKind.u8 16 src_1], SV.struct [SV.int IntKind.i64 dst_0, SV.arr IntKind.u8 16 dst_1],
                                                    SV.int IntKind.i64 proto, SV.int IntKind.i64 n]
                                                  w1_2 fun (r : SV) (w1 : World) =>
                                                  ∃ (s_3 : Sl),
                                                    ∃ (n : Int),
                                                      r = SV.tuple [SV.slice s_3, SV.int IntKind.i64 n] ∧
                                                        Keeps [b, b_1, b_2] w1_2 w1 ∧
                                                          Br (n == n_1)
                                                            (Ret Try.prog 22 [SV.slice s_3, SV.slice s] w1 fun (r : SV) (w1_3 : World) =>
                                                              ∃ (b_4 : Bool),
                                                                r = SV.bool b_4 ∧
                                                                  Keeps [b, b_1, b_2] w1 w1_3 ∧
                                                                    Br b_4
                                                                      (Ret Try.prog 13 [] w1_3 fun (r : SV) (w1 : World) =>
                                                                        ∃ (b_5 : Bool), r = SV.bool b_5 ∧ Keeps [b, b_1, b_2] w1_3 w1 ∧ R (SV.bool b_5) w1)
                                                                      (R (SV.bool false) w1_3))
                                                            (R (SV.bool false) w1)))
theorem f12_of (src_0 : Int) (src_1 : Nat → Int) (dst_0 : Int) (dst_1 : Nat → Int) (proto : Int) (n : Int) (w : World) (R : SV → World → Prop) (h : vc12 src_0 src_1 dst_0 dst_1 proto n w R) : Ret Try.prog 12 [.struct [.int .i64 src_0, .arr .u8 16 src_1], .struct [.int .i64 dst_0, .arr .u8 16 dst_1], .int .i64 proto, .int .i64 n] w R :=
  have e : vc12 src_0 src_1 dst_0 dst_1 proto n w R = fnVC X Try.f12 a12 [.struct [.int .i64 src_0, .arr .u8 16 src_1], .struct [.int .i64 dst_0, .arr .u8 16 dst_1], .int .i64 proto, .int .i64 n] w R := by kernel_rfl
  fnVC_sound X_ok (n := a12) (e ▸ h) (by kernel_rfl) (by kernel_rfl) rfl

end Go.Vc.S2
