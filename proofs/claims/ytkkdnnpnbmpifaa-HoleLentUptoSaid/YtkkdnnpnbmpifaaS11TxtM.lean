import Derived.Test.YtkkdnnpnbmpifaaG3
import Derived.KernelRfl
open Go Go.Vc Go.Vc.S11 Go.Proofs
set_option maxRecDepth 100000
set_option linter.unusedVariables false
namespace Go.Vc.S11
def vc20 (max : Int) (old_0 : Option Addr) (old_1 : Option Addr) (w : World) (R : SV → World → Prop) : Prop :=
  ∀ (b b_1 : Nat) (w1 : World),
    Upd [] [b_1, b] w w1 →
      Ret Try.prog 10 [SV.int IntKind.i64 max] w1 fun (r : SV) (w1_1 : World) =>
        ∃ (p : Option Addr),
          ∃ (n : Int),
            r = SV.tuple [SV.ptr p, SV.int IntKind.i64 n] ∧
              Keeps [b, b_1] w1 w1_1 ∧
                Ret Try.prog 35 [SV.int IntKind.i64 max] w1_1 fun (r : SV) (w1 : World) =>
                  ∃ (p_1 : Option Addr),
                    ∃ (n_1 : Int),
                      r = SV.tuple [SV.ptr p_1, SV.int IntKind.i64 n_1] ∧
                        Keeps [b, b_1] w1_1 w1 ∧
                          ∀ (J : Option Addr → Option Addr → World → Prop),
                            (∀ (p_2 p_3 : Option Addr) (w1 : World),
                                Br (n_1 != 0) (∀ (w1_2 : World), Upd [b_1] [] w1 w1_2 → R (SV.tuple [SV.struct [SV.ptr old_0, SV.ptr old_1], SV.bool true]) w1_2)
                                    (∀ (w1_2 : World), Upd [b_1] [] w1 w1_2 → R (SV.tuple [SV.struct [SV.ptr p, SV.ptr p_1], SV.bool true]) w1_2) →
                                  J p_2 p_3 w1) →
                              Br (n != n_1) (∀ (w1_2 : World), Upd [b_1] [] w1 w1_2 → R (SV.tuple [SV.struct [SV.ptr old_0, SV.ptr old_1], SV.bool false]) w1_2)
                                (Br (!Option.isNone p == (n_1 != 0))
                                  (∀ (w1_2 : World), Upd [b_1] [] w1 w1_2 → R (SV.tuple [SV.struct [SV.ptr old_0, SV.ptr old_1], SV.bool false]) w1_2)
                                  (some (SV.box b 53 (SV.struct [SV.ptr old_0, SV.ptr old_1])) = some (SV.box b 53 (SV.struct [SV.ptr old_0, SV.ptr old_1])) ∧
                                    (b_1, 53) = (b_1, 53) ∧ J none none w1))
theorem f20_of (max : Int) (old_0 : Option Addr) (old_1 : Option Addr) (w : World) (R : SV → World → Prop) (hV : vc20 max old_0 old_1 w R) : Ret Try.prog 20 [.int .i64 max, .struct [.ptr old_0, .ptr old_1]] w R :=
  have e : vc20 max old_0 old_1 w R = fnVC X Try.f20 a20 [.int .i64 max, .struct [.ptr old_0, .ptr old_1]] w R := by kernel_rfl
  fnVC_sound X_ok (n := a20) (e ▸ hV) (by kernel_rfl) (by kernel_rfl) rfl rfl

def a1021 : Ann := (.seq .leaf (.seq .leaf (.seq (.drawK [] (.early 0 (.early 1 (.early 2 (.early 3 (.early 4 (.early 5 (.early 6 (.early 7 (.fork [(8, (.early 9 (.early 10 (.early 11 (.fork [(12, (.fork [(13, (.early 14 .done))]))]))))), (12, (.fork [(8, (.early 9 (.early 10 (.early 11 (.fork [(13, (.early 14 .done))])))))]))])))))))))) (.seq .leaf (.cut [] [0, 1, 2] (.seq .leaf (.cond (.seq .leaf .leaf) .leaf)) (.seq (.seq .leaf (.block (.loop [(.t 14, (.int .i64))] [0, 1, 2] (.seq (.seq .leaf (.cond .leaf .leaf)) (.seq (.block .leaf) .leaf))))) (.seq .leaf .leaf)))))))
def tail21 (p0 : Sl) (p1 : Nat) (p2 : Nat) (p3 : Option Addr) (p4 : Option Addr) (p5 : Int) (p6 : Int) (p7 : Bool) (p8 : Int) (p9 : Int) (p10 : Bool) (p11 : SV → World → Prop) (p12 : Int) (p13 : Int) (p14 : World) (p15 : Sl) : Prop := ∀ (z0 : Nat) (z1 : World → Prop), (∀ (z2 : World), (∃ (z3 : Int → World → Prop), ∃ (z4 : Int → World → Nat), z3 0 z2 ∧ ∀ (z5 : Int) (z6 : World), z3 z5 z6 → Br (decide (z5 < (↑p0.2 : Int))) (Need (decide (0 ≤ z5) && decide (z5 < (↑p0.2 : Int)) && Option.isSome p0.1) (∃ (z7 : Int), World.cell? z6 (Sl.at p0 1 (Int.toNat z5)) = some (Value.int IntKind.u8 z7) ∧ Need (decide (0 ≤ z5) && decide (z5 < (↑p0.2 : Int)) && Option.isSome p0.1) (Store z6 (Sl.at p0 1 (Int.toNat z5)) (SV.cells (SV.int IntKind.u8 (ixor IntKind.u8 z7 255))) [p1, p2, z0] fun (z8 : World) => some (SV.box p1 53 (SV.struct [SV.ptr p3, SV.ptr p4])) = some (SV.box p1 53 (SV.struct [SV.ptr p3, SV.ptr p4])) ∧ some (SV.box p2 31 (SV.struct [SV.int IntKind.i64 p5, SV.int IntKind.i64 p6, SV.bool p7])) = some (SV.box p2 31 (SV.struct [SV.int IntKind.i64 p5, SV.int IntKind.i64 p6, SV.bool p7])) ∧ some (SV.box z0 31 (SV.struct [SV.int IntKind.i64 p8, SV.int IntKind.i64 p9, SV.bool p10])) = some (SV.box z0 31 (SV.struct [SV.int IntKind.i64 p8, SV.int IntKind.i64 p9, SV.bool p10])) ∧ z3 (wr IntKind.i64 (z5 + 1)) z8 ∧ z4 (wr IntKind.i64 (z5 + 1)) z8 < z4 z5 z6))) (p11 (SV.bool true) z6)) → z1 z2) → Br (p12 != p13) (∀ (z9 : World), Upd [] [z0] p14 z9 → p11 (SV.bool false) z9) (Br (!(p5 == p8 && (p6 == p9 && p7 == p10))) (∀ (z10 : World), Upd [] [z0] p14 z10 → p11 (SV.bool false) z10) (Need (decide (0 ≤ (↑p15.2 : Int)) && decide ((↑p15.2 : Int) ≤ (↑p0.3 : Int))) (∀ (z11 : World), Upd [] [z0] p14 z11 → Ret Try.prog 19 [SV.slice (Sl.sub p0 1 0 (Int.toNat (↑p15.2 : Int)) p0.3), SV.slice p15] z11 fun (z12 : SV) (z13 : World) => ∃ (z14 : Bool), z12 = SV.bool z14 ∧ Keeps [p1, p2, z0] z11 z13 ∧ Br (!z14) (p11 (SV.bool false) z13) (Need (decide (0 ≤ (↑p15.2 : Int)) && decide ((↑p15.2 : Int) < (↑p0.2 : Int)) && Option.isSome p0.1) (∃ (z15 : Int), World.cell? z13 (Sl.at p0 1 (Int.toNat (↑p15.2 : Int))) = some (Value.int IntKind.u8 z15) ∧ Br (z15 != 201) (p11 (SV.bool false) z13) (Need (decide (0 ≤ wr IntKind.i64 ((↑p15.2 : Int) + 2)) && decide (wr IntKind.i64 ((↑p15.2 : Int) + 2) < (↑p0.2 : Int)) && Option.isSome p0.1) (∃ (z16 : Int), World.cell? z13 (Sl.at p0 1 (Int.toNat (wr IntKind.i64 ((↑p15.2 : Int) + 2)))) = some (Value.int IntKind.u8 z16) ∧ Br (z16 != 203) (p11 (SV.bool false) z13) (some (SV.box p1 53 (SV.struct [SV.ptr p3, SV.ptr p4])) = some (SV.box p1 53 (SV.struct [SV.ptr p3, SV.ptr p4])) ∧ some (SV.box p2 31 (SV.struct [SV.int IntKind.i64 p5, SV.int IntKind.i64 p6, SV.bool p7])) = some (SV.box p2 31 (SV.struct [SV.int IntKind.i64 p5, SV.int IntKind.i64 p6, SV.bool p7])) ∧ some (SV.box z0 31 (SV.struct [SV.int IntKind.i64 p8, SV.int IntKind.i64 p9, SV.bool p10])) = some (SV.box z0 31 (SV.struct [SV.int IntKind.i64 p8, SV.int IntKind.i64 p9, SV.bool p10])) ∧ z1 z13))))))))
def vc21 (p_0 : Option Addr) (p_1 : Option Addr) (off : Int) (data : Sl) (more : Bool) (w : World) (R : SV → World → Prop) : Prop := ∀ (b : Nat) (w1 : World), Upd [] [b] w w1 → Vc.Append 5 1 1 { ptr := none, len := 0, cap := 0 } data [b] w1 fun (r : Sl) (w : World) => ∀ (b_1 : Nat) (w1 : World), Upd [] [b_1] w w1 → (World.heap w1)[b_1]? = some (Obj.cells { toList := SV.cells (SV.struct [SV.int IntKind.u8 201, SV.int IntKind.u8 202, SV.int IntKind.u8 203]) } 5) → Vc.Append 5 1 1 r { ptr := some { block := b_1, off := 0 }, len := 3, cap := 3 } [b] w1 fun (r : Sl) (w : World) => ∃ (bs : List Nat), (∀ (b : Nat), b ∈ bs → b < List.length (World.heap w).1) ∧ Need (decide (0 ≤ (↑data.2 : Int)) && decide ((↑data.2 : Int) ≤ (↑r.3 : Int))) ((∀ (w1 : World), Upd [] [] w w1 → Ret Try.prog 12 [SV.ptr p_0, SV.int IntKind.i64 off, SV.slice (Sl.sub r 1 0 (Int.toNat (↑data.2 : Int)) r.3), SV.bool more] w1 fun (r_1 : SV) (w1_1 : World) => ∃ (n : Int), ∃ (n_1 : Int), ∃ (b_2 : Bool), ∃ (n_2 : Int), r_1 = SV.tuple [SV.struct [SV.int IntKind.i64 n, SV.int IntKind.i64 n_1, SV.bool b_2], SV.int IntKind.i64 n_2] ∧ Keeps [b] w1 w1_1 ∧ ∀ (b_3 : Nat), Kept bs w w1_1 ∧ ∀ (w1 : World), Upd [] [b_3] w1_1 w1 → Ret Try.prog 26 [SV.ptr p_1, SV.int IntKind.i64 off, SV.slice data, SV.bool more] w1 fun (r_2 : SV) (w1_2 : World) => ∃ (n_3 : Int), ∃ (n_4 : Int), ∃ (b_4 : Bool), ∃ (n_5 : Int), r_2 = SV.tuple [SV.struct [SV.int IntKind.i64 n_3, SV.int IntKind.i64 n_4, SV.bool b_4], SV.int IntKind.i64 n_5] ∧ Keeps [b, b_3] w1 w1_2 ∧ tail21 r b b_3 p_0 p_1 n n_1 b_2 n_3 n_4 b_4 R n_2 n_5 w1_2 data) ∧ ∀ (b_2 : Nat), Kept bs w w ∧ ∀ (w1 : World), Upd [] [b_2] w w1 → Ret Try.prog 12 [SV.ptr p_0, SV.int IntKind.i64 off, SV.slice (Sl.sub r 1 0 (Int.toNat (↑data.2 : Int)) r.3), SV.bool more] w1 fun (r_1 : SV) (w1_1 : World) => ∃ (n : Int), ∃ (n_1 : Int), ∃ (b_3 : Bool), ∃ (n_2 : Int), r_1 = SV.tuple [SV.struct [SV.int IntKind.i64 n, SV.int IntKind.i64 n_1, SV.bool b_3], SV.int IntKind.i64 n_2] ∧ Keeps [b, b_2] w1 w1_1 ∧ ∀ (w1 : World), Upd [b_2] [] w1_1 w1 → Ret Try.prog 26 [SV.ptr p_1, SV.int IntKind.i64 off, SV.slice data, SV.bool more] w1 fun (r_2 : SV) (w1_2 : World) => ∃ (n_3 : Int), ∃ (n_4 : Int), ∃ (b_4 : Bool), ∃ (n_5 : Int), r_2 = SV.tuple [SV.struct [SV.int IntKind.i64 n_3, SV.int IntKind.i64 n_4, SV.bool b_4], SV.int IntKind.i64 n_5] ∧ Keeps [b, b_2] w1 w1_2 ∧ tail21 r b b_2 p_0 p_1 n n_1 b_3 n_3 n_4 b_4 R n_2 n_5 w1_2 data)
theorem f21_of (p_0 : Option Addr) (p_1 : Option Addr) (off : Int) (data : Sl) (more : Bool) (w : World) (R : SV → World → Prop) (hV : vc21 p_0 p_1 off data more w R) : Ret Try.prog 21 [.struct [.ptr p_0, .ptr p_1], .int .i64 off, .slice data, .bool more] w R :=
  have e : vc21 p_0 p_1 off data more w R = fnVC X Try.f21 a1021 [.struct [.ptr p_0, .ptr p_1], .int .i64 off, .slice data, .bool more] w R := by kernel_rfl
  fnVC_sound X_ok (n := a1021) (e ▸ hV) (by kernel_rfl) (by kernel_rfl) rfl rfl

def vc22 (p_0 : Option Addr) (p_1 : Option Addr) (kind : Int) (book : Option Addr) (w : World) (R : SV → World → Prop) : Prop :=
  ∀ (b : Nat),
    Br (kind == 2)
      (∀ (w1 : World),
        Upd [] [b] w w1 →
          Ret Try.prog 11 [SV.ptr p_0] w1 fun (r : SV) (w1_1 : World) =>
            ∃ (s : Sl),
              r = SV.slice s ∧
                Keeps [b] w1 w1_1 ∧
                  Ret Try.prog 29 [SV.ptr p_1] w1_1 fun (r : SV) (w1 : World) =>
                    ∃ (s_1 : Sl),
                      r = SV.slice s_1 ∧
                        Keeps [b] w1_1 w1 ∧
                          Ret Try.prog 24 [SV.slice s, SV.slice s_1] w1 fun (r : SV) (w1_2 : World) =>
                            ∃ (b_1 : Bool),
                              r = SV.bool b_1 ∧
                                Keeps [b] w1 w1_2 ∧
                                  Br (!b_1) (R (SV.bool false) w1_2)
                                    (Ret Try.prog 36 [SV.ptr book, SV.slice s] w1_2 fun (r : SV) (w1 : World) => r = SV.tuple [] ∧ Keeps [b] w1_2 w1 ∧ R (SV.bool true) w1))
      (Br (kind == 3)
        (∀ (w1 : World),
          Upd [] [b] w w1 →
            Ret Try.prog 14 [SV.ptr p_0] w1 fun (r : SV) (w1_1 : World) =>
              ∃ (n : Int),
                ∃ (b_1 : Bool),
                  r = SV.tuple [SV.int IntKind.i64 n, SV.bool b_1] ∧
                    Keeps [b] w1 w1_1 ∧
                      Ret Try.prog 37 [SV.ptr p_1] w1_1 fun (r : SV) (w1 : World) =>
                        ∃ (n_1 : Int),
                          ∃ (b_2 : Bool),
                            r = SV.tuple [SV.int IntKind.i64 n_1, SV.bool b_2] ∧
                              Keeps [b] w1_1 w1 ∧
                                Br (n == n_1)
                                  (Br (b_1 == b_2)
                                    (∀ (w1_2 : World),
                                      Upd [] [] w1 w1_2 →
                                        Ret Try.prog 16 [SV.ptr p_0] w1_2 fun (r : SV) (w1_3 : World) =>
                                          ∃ (b_3 : Bool),
                                            r = SV.bool b_3 ∧
                                              Keeps [b] w1_2 w1_3 ∧
                                                Upd [] [] w1 w1_3 ∧
                                                  Ret Try.prog 38 [SV.ptr p_1] w1_3 fun (r : SV) (w1_4 : World) =>
                                                    ∃ (b_4 : Bool),
                                                      r = SV.bool b_4 ∧
                                                        Keeps [b] w1_3 w1_4 ∧
                                                          Upd [] [] w1 w1_4 ∧
                                                            Br (b_3 == b_4)
                                                              (Ret Try.prog 15 [SV.ptr p_0] w1_4 fun (r : SV) (w1_5 : World) =>
                                                                ∃ (n : Int),
                                                                  r = SV.int IntKind.i64 n ∧
                                                                    Keeps [b] w1_4 w1_5 ∧
                                                                      Upd [] [] w1 w1_5 ∧
                                                                        Ret Try.prog 39 [SV.ptr p_1] w1_5 fun (r : SV) (w1 : World) =>
                                                                          ∃ (n_2 : Int), r = SV.int IntKind.i64 n_2 ∧ Keeps [b] w1_5 w1 ∧ R (SV.bool (n == n_2)) w1)
                                                              (R (SV.bool false) w1_4))
                                    (∀ (w1_2 : World), Upd [] [] w1 w1_2 → R (SV.bool false) w1_2))
                                  (∀ (w1_2 : World), Upd [] [] w1 w1_2 → R (SV.bool false) w1_2))
        (Br (kind == 4)
          (∀ (w1 : World),
            Upd [] [b] w w1 →
              Ret Try.prog 18 [SV.ptr p_0] w1 fun (r : SV) (w1_1 : World) =>
                ∃ (s : Sl),
                  ∃ (b_1 : Bool),
                    r = SV.tuple [SV.slice s, SV.bool b_1] ∧
                      Keeps [b] w1 w1_1 ∧
                        Ret Try.prog 28 [SV.ptr p_1] w1_1 fun (r : SV) (w1 : World) =>
                          ∃ (s_1 : Sl),
                            ∃ (b_2 : Bool),
                              r = SV.tuple [SV.slice s_1, SV.bool b_2] ∧
                                Keeps [b] w1_1 w1 ∧
                                  ∀ (J : World → Prop),
                                    (∀ (w1 : World),
                                        (Ret Try.prog 40 [SV.ptr book, SV.slice s] w1 fun (r : SV) (w1_2 : World) => r = SV.tuple [] ∧ Keeps [b] w1 w1_2 ∧ R (SV.bool true) w1_2) →
                                          J w1) →
                                      Br (!b_1 == b_2) (R (SV.bool false) w1)
                                        (Ret Try.prog 19 [SV.slice s, SV.slice s_1] w1 fun (r : SV) (w1_2 : World) =>
                                          ∃ (b_3 : Bool),
                                            r = SV.bool b_3 ∧
                                              Keeps [b] w1 w1_2 ∧
                                                Br (!b_3) (R (SV.bool false) w1_2)
                                                  (some (SV.box b 53 (SV.struct [SV.ptr p_0, SV.ptr p_1])) = some (SV.box b 53 (SV.struct [SV.ptr p_0, SV.ptr p_1])) ∧ J w1_2)))
          (∀ (w1 : World), Upd [] [b] w w1 → R (SV.bool true) w1)))
theorem f22_of (p_0 : Option Addr) (p_1 : Option Addr) (kind : Int) (book : Option Addr) (w : World) (R : SV → World → Prop) (hV : vc22 p_0 p_1 kind book w R) : Ret Try.prog 22 [.struct [.ptr p_0, .ptr p_1], .int .i64 kind, .ptr book] w R :=
  have e : vc22 p_0 p_1 kind book w R = fnVC X Try.f22 a22 [.struct [.ptr p_0, .ptr p_1], .int .i64 kind, .ptr book] w R := by kernel_rfl
  fnVC_sound X_ok (n := a22) (e ▸ hV) (by kernel_rfl) (by kernel_rfl) rfl rfl

end Go.Vc.S11
