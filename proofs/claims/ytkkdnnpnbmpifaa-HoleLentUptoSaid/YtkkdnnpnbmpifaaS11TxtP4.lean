import Derived.Test.YtkkdnnpnbmpifaaG3
import Derived.KernelRfl
open Go Go.Vc Go.Vc.S11 Go.Proofs
set_option maxRecDepth 100000
set_option linter.unusedVariables false
namespace Go.Vc.S11
def a1004 : Ann := (.seq .leaf (.seq .leaf (.cut [(.t 0, (.slice 5))] [] (.seq .leaf (.cond .leaf .leaf)) (.cut [(.t 1, (.slice 3))] [] (.seq .leaf (.cond .leaf .leaf)) (.seq .leaf (.seq .leaf (.cut [] [] (.seq .leaf (.cond (.seq .leaf .leaf) .leaf)) (.seq .leaf (.seq (.seq .leaf (.block (.loop [(.t 10, (.slice 4)), (.t 11, (.int .i64))] [] (.seq (.seq .leaf (.cond .leaf .leaf)) (.seq (.block .leaf) .leaf))))) (.seq .leaf (.seq (.seq .leaf (.block (.loop [(.t 12, (.int .i64)), (.t 13, (.int .i64))] [] (.cut [] [] (.seq .leaf (.cond .leaf .leaf)) (.cut [(.t 12, (.int .i64))] [] (.block (.seq .leaf (.cut [(.t 14, (.int .i64))] [] (.seq .leaf (.cond .leaf (.seq .leaf (.seq .leaf (.cond .leaf .leaf))))) (.seq (.drawK [] (.early 0 (.early 1 (.early 2 (.early 3 (.early 4 (.early 5 (.early 6 (.early 7 (.early 8 (.early 9 (.early 10 (.early 11 (.early 12 (.early 13 (.early 14 (.early 15 (.fork [(16, (.early 17 (.early 18 (.early 19 (.fork [(20, (.fork [(21, (.early 22 .done))]))]))))), (20, (.fork [(16, (.early 17 (.early 18 (.early 19 (.fork [(21, (.early 22 .done))])))))]))])))))))))))))))))) (.cut [] [0] (.seq (.draw (.early 0 (.early 1 (.early 2 (.early 3 (.early 4 (.early 5 (.early 6 (.early 7 (.early 8 (.early 9 (.early 10 (.early 11 (.early 12 (.early 13 (.early 14 (.early 15 (.early 16 (.early 17 (.early 18 (.early 19 (.early 20 (.early 21 (.early 22 (.early 23 (.early 24 (.early 25 (.early 26 (.early 27 (.early 28 (.early 29 (.early 30 (.early 31 (.early 32 (.early 33 (.early 34 .done)))))))))))))))))))))))))))))))))))) (.cond (.seq .leaf .leaf) .leaf)) (.cut [(.t 12, (.int .i64))] [0] (.seq .leaf (.cond .leaf .leaf)) (.seq .leaf (.seq .leaf (.seq .leaf (.cond (.seq .leaf .leaf) .leaf)))))))))) .leaf))))) (.seq .leaf .leaf))))))))))))
def tail4 (p0 : Int) (p1 : Sl) (p2 : Nat) (p3 : Option Addr) (p4 : Sl) (p5 : SV → World → Prop) (p6 : Sl) (p7 : Int → World → Prop) (p8 : World) (p9 : Int) (p10 : Int) (p11 : Bool) (p12 : Int) : Prop := ∀ (z0 : Int → World → Prop), (∀ (z1 : Int) (z2 : World), Need (decide (0 ≤ p0) && decide (p0 < (↑p1.2 : Int)) && Option.isSome p1.1) (Store z2 (Sl.at p1 1 (Int.toNat p0)) (SV.cells (SV.bool true)) [p2] fun (z3 : World) => Ret Try.prog 18 [SV.ptr p3] z3 fun (z4 : SV) (z5 : World) => ∃ (z6 : Sl), ∃ (z7 : Bool), z4 = SV.tuple [SV.slice z6, SV.bool z7] ∧ Keeps [p2] z3 z5 ∧ Ret Try.prog 16 [SV.ptr p3] z5 fun (z8 : SV) (z9 : World) => ∃ (z10 : Bool), z8 = SV.bool z10 ∧ Keeps [p2] z5 z9 ∧ Br (!z10 == (z1 == (↑p4.2 : Int))) (p5 (SV.bool false) z9) (Br (!z7 == (z1 == (↑p4.2 : Int))) (p5 (SV.bool false) z9) (Br z7 (Ret Try.prog 19 [SV.slice z6, SV.slice p6] z9 fun (z11 : SV) (z12 : World) => ∃ (z13 : Bool), z11 = SV.bool z13 ∧ Keeps [p2] z9 z12 ∧ Br (!z13) (p5 (SV.bool false) z12) (p7 z1 z12)) (p7 z1 z9)))) → z0 z1 z2) → Need (decide (0 ≤ p0) && decide (p0 < (↑p1.2 : Int)) && Option.isSome p1.1) (∃ (z14 : Bool), World.cell? p8 (Sl.at p1 1 (Int.toNat p0)) = some (Value.bool z14) ∧ Br (!z14) (some (SV.box p2 31 (SV.struct [SV.int IntKind.i64 p9, SV.int IntKind.i64 p10, SV.bool p11])) = some (SV.box p2 31 (SV.struct [SV.int IntKind.i64 p9, SV.int IntKind.i64 p10, SV.bool p11])) ∧ z0 (wr IntKind.i64 (p12 + 1)) p8) (some (SV.box p2 31 (SV.struct [SV.int IntKind.i64 p9, SV.int IntKind.i64 p10, SV.bool p11])) = some (SV.box p2 31 (SV.struct [SV.int IntKind.i64 p9, SV.int IntKind.i64 p10, SV.bool p11])) ∧ z0 p12 p8))
def vc4 (data : Sl) (cuts : Sl) (order : Sl) (w : World) (R : SV → World → Prop) : Prop := Ret Try.prog 13 [SV.slice data] w fun (r : SV) (w1 : World) => ∃ (s : Sl), r = SV.slice s ∧ ∀ (J : Sl → World → Prop), (∀ (s : Sl) (w1 : World), (∀ (J : Sl → World → Prop), (∀ (s_1 : Sl) (w1 : World), (Ret Try.prog 17 [SV.slice s, SV.slice s_1] w1 fun (r : SV) (w1 : World) => ∃ (s_2 : Sl), r = SV.slice s_2 ∧ Ret Try.prog 10 [SV.int IntKind.i64 65535] w1 fun (r : SV) (w1 : World) => ∃ (p : Option Addr), ∃ (n : Int), r = SV.tuple [SV.ptr p, SV.int IntKind.i64 n] ∧ ∀ (J : World → Prop), (∀ (w1 : World), (∃ (I : Sl → Int → World → Prop), ∃ (M : Sl → Int → World → Nat), I { ptr := none, len := 0, cap := 0 } 0 w1 ∧ ∀ (s_3 : Sl) (n : Int) (w1 : World), I s_3 n w1 → Br (decide (n < (↑s_2.2 : Int))) (∀ (b : Nat) (w1_1 : World), Upd [] [b] w1 w1_1 → (World.heap w1_1)[b]? = some (Obj.cells { toList := SV.cells (SV.struct [SV.bool false]) } 4) → Vc.Append 4 1 1 s_3 { ptr := some { block := b, off := 0 }, len := 1, cap := 1 } [] w1_1 fun (r : Sl) (w : World) => I r (wr IntKind.i64 (n + 1)) w ∧ M r (wr IntKind.i64 (n + 1)) w < M s_3 n w1) (∃ (I : Int → Int → World → Prop), ∃ (M : Int → Int → World → Nat), I 0 0 w1 ∧ ∀ (n n_1 : Int) (w1 : World), I n n_1 w1 → ∀ (J : World → Prop), (∀ (w1_1 : World), (∀ (J : Int → World → Prop), (∀ (n_2 : Int) (w1_2 : World), I n_2 (wr IntKind.i64 (n_1 + 1)) w1_2 ∧ M n_2 (wr IntKind.i64 (n_1 + 1)) w1_2 < M n n_1 w1 → J n_2 w1_2) → ∀ (J_1 : Int → World → Prop), (∀ (n_2 : Int) (w1 : World), (∃ (bs : List Nat), (∀ (b : Nat), b ∈ bs → b < List.length (World.heap w1).1) ∧ Need (decide (0 ≤ n_2) && decide (n_2 < (↑s_2.2 : Int)) && Option.isSome s_2.1) (Addr.block (Sl.at s_2 3 (Int.toNat n_2)) ∈ bs ∧ ∃ (n_3 : Int), World.cell? w1 (Sl.at s_2 3 (Int.toNat n_2)) = some (Value.int IntKind.i64 n_3) ∧ Need (decide (0 ≤ n_2) && decide (n_2 < (↑s_2.2 : Int)) && Option.isSome s_2.1) (Addr.block (Addr.add (Sl.at s_2 3 (Int.toNat n_2)) 1) ∈ bs ∧ ∃ (s_4 : Sl), World.cell? w1 (Addr.add (Sl.at s_2 3 (Int.toNat n_2)) 1) = some (Sl.val s_4) ∧ Need (decide (0 ≤ n_2) && decide (n_2 < (↑s_2.2 : Int)) && Option.isSome s_2.1) (Addr.block (Addr.add (Sl.at s_2 3 (Int.toNat n_2)) 2) ∈ bs ∧ ∃ (b : Bool), World.cell? w1 (Addr.add (Sl.at s_2 3 (Int.toNat n_2)) 2) = some (Value.bool b) ∧ (∀ (w1_2 : World), Upd [] [] w1 w1_2 → Ret Try.prog 12 [SV.ptr p, SV.int IntKind.i64 n_3, SV.slice s_4, SV.bool b] w1_2 fun (r : SV) (w1_3 : World) => ∃ (n_4 : Int), ∃ (n_5 : Int), ∃ (b : Bool), ∃ (n_6 : Int), r = SV.tuple [SV.struct [SV.int IntKind.i64 n_4, SV.int IntKind.i64 n_5, SV.bool b], SV.int IntKind.i64 n_6] ∧ ∀ (b_1 : Nat), Kept bs w1 w1_3 ∧ ∀ (J_2 : World → Prop), (∀ (w1 : World), (tail4 n_2 s_3 b_1 p s_2 R s J w1 n_4 n_5 b n) → J_2 w1) → Br (n_6 != 0) (∀ (w1 : World), Upd [] [b_1] w1_3 w1 → R (SV.bool false) w1) (Need (decide (0 ≤ n_2) && decide (n_2 < (↑s_3.2 : Int)) && Option.isSome s_3.1) (∃ (b_2 : Bool), World.cell? w1_3 (Sl.at s_3 1 (Int.toNat n_2)) = some (Value.bool b_2) ∧ Br (!b == b_2) (∀ (w1 : World), Upd [] [b_1] w1_3 w1 → R (SV.bool false) w1) (Need (decide (0 ≤ n_2) && decide (n_2 < (↑s_3.2 : Int)) && Option.isSome s_3.1) (∃ (b_3 : Bool), World.cell? w1_3 (Sl.at s_3 1 (Int.toNat n_2)) = some (Value.bool b_3) ∧ Br (!b_3 == (n_4 == 0)) (∀ (w1 : World), Upd [] [b_1] w1_3 w1 → R (SV.bool false) w1) (Need (decide (0 ≤ n_2) && decide (n_2 < (↑s_2.2 : Int)) && Option.isSome s_2.1) (∃ (s : Sl), World.cell? w1_3 (Addr.add (Sl.at s_2 3 (Int.toNat n_2)) 1) = some (Sl.val s) ∧ Br (wr IntKind.i64 (n_5 + n_4) != (↑s.2 : Int)) (∀ (w1 : World), Upd [] [b_1] w1_3 w1 → R (SV.bool false) w1) (∀ (w1 : World), Upd [] [b_1] w1_3 w1 → some (SV.box b_1 31 (SV.struct [SV.int IntKind.i64 n_4, SV.int IntKind.i64 n_5, SV.bool b])) = some (SV.box b_1 31 (SV.struct [SV.int IntKind.i64 n_4, SV.int IntKind.i64 n_5, SV.bool b])) ∧ J_2 w1)))))))) ∧ ∀ (b_1 : Nat), Kept bs w1 w1 ∧ ∀ (w1_2 : World), Upd [] [b_1] w1 w1_2 → Ret Try.prog 12 [SV.ptr p, SV.int IntKind.i64 n_3, SV.slice s_4, SV.bool b] w1_2 fun (r : SV) (w1 : World) => ∃ (n_4 : Int), ∃ (n_5 : Int), ∃ (b : Bool), ∃ (n_6 : Int), r = SV.tuple [SV.struct [SV.int IntKind.i64 n_4, SV.int IntKind.i64 n_5, SV.bool b], SV.int IntKind.i64 n_6] ∧ Keeps [b_1] w1_2 w1 ∧ ∀ (J_2 : World → Prop), (∀ (w1 : World), (tail4 n_2 s_3 b_1 p s_2 R s J w1 n_4 n_5 b n) → J_2 w1) → ∀ (w1_3 : World), Upd [b_1] [] w1 w1_3 → Br (n_6 != 0) (∀ (w1 : World), Upd [] [] w1_3 w1 → R (SV.bool false) w1) (Need (decide (0 ≤ n_2) && decide (n_2 < (↑s_3.2 : Int)) && Option.isSome s_3.1) (∃ (b_2 : Bool), World.cell? w1_3 (Sl.at s_3 1 (Int.toNat n_2)) = some (Value.bool b_2) ∧ Br (!b == b_2) (∀ (w1 : World), Upd [] [] w1_3 w1 → R (SV.bool false) w1) (Need (decide (0 ≤ n_2) && decide (n_2 < (↑s_3.2 : Int)) && Option.isSome s_3.1) (∃ (b_3 : Bool), World.cell? w1_3 (Sl.at s_3 1 (Int.toNat n_2)) = some (Value.bool b_3) ∧ Br (!b_3 == (n_4 == 0)) (∀ (w1 : World), Upd [] [] w1_3 w1 → R (SV.bool false) w1) (Need (decide (0 ≤ n_2) && decide (n_2 < (↑s_2.2 : Int)) && Option.isSome s_2.1) (∃ (s : Sl), World.cell? w1_3 (Addr.add (Sl.at s_2 3 (Int.toNat n_2)) 1) = some (Sl.val s) ∧ Br (wr IntKind.i64 (n_5 + n_4) != (↑s.2 : Int)) (∀ (w1 : World), Upd [] [] w1_3 w1 → R (SV.bool false) w1) (∀ (w1 : World), Upd [] [] w1_3 w1 → some (SV.box b_1 31 (SV.struct [SV.int IntKind.i64 n_4, SV.int IntKind.i64 n_5, SV.bool b])) = some (SV.box b_1 31 (SV.struct [SV.int IntKind.i64 n_4, SV.int IntKind.i64 n_5, SV.bool b])) ∧ J_2 w1))))))))))) → J_1 n_2 w1) → Br (decide (n_1 < (↑order.2 : Int))) (Need (decide (0 ≤ n_1) && decide (n_1 < (↑order.2 : Int)) && Option.isSome order.1) (∃ (n : Int), World.cell? w1_1 (Sl.at order 1 (Int.toNat n_1)) = some (Value.int IntKind.i64 n) ∧ Need ((↑s_2.2 : Int) != 0) (J_1 (Int.tmod (iand IntKind.i64 n 1099511627775) (↑s_2.2 : Int)) w1_1))) (Br (decide (wr IntKind.i64 (wr IntKind.i64 (wr IntKind.i64 ((↑order.2 : Int) + (↑s_2.2 : Int)) - 1) - n_1) < 0)) (J n w1_1) (Br (decide (wr IntKind.i64 (wr IntKind.i64 (wr IntKind.i64 ((↑order.2 : Int) + (↑s_2.2 : Int)) - 1) - n_1) ≥ (↑s_2.2 : Int))) (J n w1_1) (J_1 (wr IntKind.i64 (wr IntKind.i64 (wr IntKind.i64 ((↑order.2 : Int) + (↑s_2.2 : Int)) - 1) - n_1)) w1_1)))) → J w1_1) → Br (decide (n_1 < wr IntKind.i64 ((↑order.2 : Int) + (↑s_2.2 : Int)))) (Br (decide (n_1 < 400)) (J w1) (R (SV.bool true) w1)) (R (SV.bool true) w1))) → J w1) → Br (Option.isNone p) (R (SV.bool false) w1) (Br (n != 0) (R (SV.bool false) w1) (J w1))) → J s_1 w1) → Br (decide ((↑cuts.2 : Int) > 90)) (Need (decide (90 ≤ (↑cuts.3 : Int))) (J (Sl.sub cuts 1 0 90 cuts.3) w1)) (J cuts w1)) → J s w1) → Br ((↑s.2 : Int) == 0) (∀ (b : Nat) (w1_1 : World), Upd [] [b] w1 w1_1 → (World.heap w1_1)[b]? = some (Obj.cells { toList := SV.cells (SV.struct [SV.int IntKind.u8 1]) } 5) → J { ptr := some { block := b, off := 0 }, len := 1, cap := 1 } w1_1) (J s w1)
theorem f4_of (data : Sl) (cuts : Sl) (order : Sl) (w : World) (R : SV → World → Prop) (hV : vc4 data cuts order w R) : Ret Try.prog 4 [.slice data, .slice cuts, .slice order] w R :=
  have e : vc4 data cuts order w R = fnVC X Try.f4 a1004 [.slice data, .slice cuts, .slice order] w R := by kernel_rfl
  fnVC_sound X_ok (n := a1004) (e ▸ hV) (by kernel_rfl) (by kernel_rfl) rfl rfl

def vc17 (data : Sl) (cuts : Sl) (w : World) (R : SV → World → Prop) : Prop :=
  ∃ (I : Sl → Int → Int → World → Prop),
    ∃ (M : Sl → Int → Int → World → Nat),
      I { ptr := none, len := 0, cap := 0 } 0 0 w ∧
        ∀ (s : Sl) (n n_1 : Int) (w1 : World),
          I s n n_1 w1 →
            ∀ (J : World → Prop),
              (∀ (w1_1 : World),
                  (∀ (J : Sl → Int → World → Prop),
                      (∀ (s_1 : Sl) (n_2 : Int) (w1_2 : World),
                          I s_1 n_2 (wr IntKind.i64 (n_1 + 1)) w1_2 ∧ M s_1 n_2 (wr IntKind.i64 (n_1 + 1)) w1_2 < M s n n_1 w1 → J s_1 n_2 w1_2) →
                        ∀ (J_1 : Int → World → Prop),
                          (∀ (n_2 : Int) (w1 : World),
                              Need
                                  (decide (0 ≤ wr IntKind.i64 (n + n_2)) && decide (wr IntKind.i64 (n + n_2) ≤ (↑data.3 : Int)) &&
                                    (decide (0 ≤ n) && decide (n ≤ (↑(Int.toNat (wr IntKind.i64 (n + n_2))) : Int))))
                                  (∀ (b : Nat) (w1_2 : World),
                                    Upd [] [b] w1 w1_2 →
                                      (World.heap w1_2)[b]? =
                                          some
                                            (Obj.cells
                                              {
                                                toList :=
                                                  SV.cells
                                                    (SV.struct
                                                      [SV.struct
                                                          [SV.int IntKind.i64 n, SV.slice (Sl.sub data 1 (Int.toNat n) (Int.toNat (wr IntKind.i64 (n + n_2))) data.3),
                                                            SV.bool (decide (wr IntKind.i64 (n + n_2) < (↑data.2 : Int)))]]) }
                                              36) →
                                        Vc.Append 36 3 40 s { ptr := some { block := b, off := 0 }, len := 1, cap := 1 } [] w1_2 fun (r : Sl) (w : World) =>
                                          J r (wr IntKind.i64 (n + n_2)) w) →
                                J_1 n_2 w1) →
                            Br (decide (n_1 < (↑cuts.2 : Int)))
                              (Need (decide (0 ≤ n_1) && decide (n_1 < (↑cuts.2 : Int)) && Option.isSome cuts.1)
                                (∃ (n_2 : Int),
                                  World.cell? w1_1 (Sl.at cuts 1 (Int.toNat n_1)) = some (Value.int IntKind.i64 n_2) ∧
                                    Br (decide (wr IntKind.i64 (8 * wr IntKind.i64 (1 + iand IntKind.i64 n_2 7)) < wr IntKind.i64 ((↑data.2 : Int) - n)))
                                      (J_1 (wr IntKind.i64 (8 * wr IntKind.i64 (1 + iand IntKind.i64 n_2 7))) w1_1) (J_1 (wr IntKind.i64 ((↑data.2 : Int) - n)) w1_1)))
                              (J_1 (wr IntKind.i64 ((↑data.2 : Int) - n)) w1_1)) →
                    J w1_1) →
                Br (decide (n < (↑data.2 : Int))) (Br (decide ((↑s.2 : Int) < 100)) (J w1) (R (SV.slice s) w1)) (R (SV.slice s) w1)
theorem f17_of (data : Sl) (cuts : Sl) (w : World) (R : SV → World → Prop) (hV : vc17 data cuts w R) : Ret Try.prog 17 [.slice data, .slice cuts] w R :=
  have e : vc17 data cuts w R = fnVC X Try.f17 a17 [.slice data, .slice cuts] w R := by kernel_rfl
  fnVC_sound X_ok (n := a17) (e ▸ hV) (by kernel_rfl) (by kernel_rfl) rfl rfl

def vc19 (a : Sl) (b : Sl) (w : World) (R : SV → World → Prop) : Prop :=
  Br ((↑a.2 : Int) != (↑b.2 : Int)) (R (SV.bool false) w)
    (∃ (I : Int → World → Prop),
      ∃ (M : Int → World → Nat),
        I 0 w ∧
          ∀ (n : Int) (w1 : World),
            I n w1 →
              Br (decide (n < (↑a.2 : Int)))
                (Need (decide (0 ≤ n) && decide (n < (↑a.2 : Int)) && Option.isSome a.1)
                  (∃ (n_1 : Int),
                    World.cell? w1 (Sl.at a 1 (Int.toNat n)) = some (Value.int IntKind.u8 n_1) ∧
                      Need (decide (0 ≤ n) && decide (n < (↑b.2 : Int)) && Option.isSome b.1)
                        (∃ (n_2 : Int),
                          World.cell? w1 (Sl.at b 1 (Int.toNat n)) = some (Value.int IntKind.u8 n_2) ∧
                            Br (n_1 != n_2) (∀ (w1_1 : World), Upd [] [] w1 w1_1 → R (SV.bool false) w1_1)
                              (∀ (w1_1 : World), Upd [] [] w1 w1_1 → I (wr IntKind.i64 (n + 1)) w1_1 ∧ M (wr IntKind.i64 (n + 1)) w1_1 < M n w1))))
                (R (SV.bool true) w1))
theorem f19_of (a : Sl) (b : Sl) (w : World) (R : SV → World → Prop) (hV : vc19 a b w R) : Ret Try.prog 19 [.slice a, .slice b] w R :=
  have e : vc19 a b w R = fnVC X Try.f19 a19 [.slice a, .slice b] w R := by kernel_rfl
  fnVC_sound X_ok (n := a19) (e ▸ hV) (by kernel_rfl) (by kernel_rfl) rfl rfl

end Go.Vc.S11
