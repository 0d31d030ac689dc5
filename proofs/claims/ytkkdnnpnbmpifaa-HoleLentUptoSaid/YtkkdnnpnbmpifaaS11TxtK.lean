import Derived.Test.YtkkdnnpnbmpifaaG3
import Derived.KernelRfl
open Go Go.Vc Go.Vc.S11 Go.Proofs
set_option maxRecDepth 100000
set_option linter.unusedVariables false
namespace Go.Vc.S11
def a1040 : Ann := (.seq .leaf (.seq (.seq .leaf (.block (.loop [(.t 5, (.int .i64))] [] (.seq (.seq .leaf (.cond .leaf .leaf)) (.seq (.block .leaf) .leaf))))) (.seq (.drawK [] (.early 0 (.early 1 (.early 2 (.early 3 (.early 4 (.early 5 (.early 6 (.early 7 (.early 10 (.early 11 (.early 12 (.early 15 (.early 16 (.early 17 (.early 18 (.fork [(8, (.fork [(9, (.fork [(13, (.fork [(14, (.fork [(19, (.fork [(20, (.fork [(21, (.fork [(22, (.early 23 (.early 24 (.fork [(25, .done)]))))]))]))]))])), (19, (.fork [(14, (.fork [(20, (.fork [(21, (.fork [(22, (.early 23 (.early 24 (.fork [(25, .done)]))))]))]))]))]))])), (19, (.fork [(13, (.fork [(14, (.fork [(20, (.fork [(21, (.fork [(22, (.early 23 (.early 24 (.fork [(25, .done)]))))]))]))]))]))]))])), (13, (.fork [(9, (.fork [(14, (.fork [(19, (.fork [(20, (.fork [(21, (.fork [(22, (.early 23 (.early 24 (.fork [(25, .done)]))))]))]))]))])), (19, (.fork [(14, (.fork [(20, (.fork [(21, (.fork [(22, (.early 23 (.early 24 (.fork [(25, .done)]))))]))]))]))]))])), (19, (.fork [(9, (.fork [(14, (.fork [(20, (.fork [(21, (.fork [(22, (.early 23 (.early 24 (.fork [(25, .done)]))))]))]))]))]))]))])), (19, (.fork [(9, (.fork [(13, (.fork [(14, (.fork [(20, (.fork [(21, (.fork [(22, (.early 23 (.early 24 (.fork [(25, .done)]))))]))]))]))]))])), (13, (.fork [(9, (.fork [(14, (.fork [(20, (.fork [(21, (.fork [(22, (.early 23 (.early 24 (.fork [(25, .done)]))))]))]))]))]))]))]))])), (13, (.fork [(8, (.fork [(9, (.fork [(14, (.fork [(19, (.fork [(20, (.fork [(21, (.fork [(22, (.early 23 (.early 24 (.fork [(25, .done)]))))]))]))]))])), (19, (.fork [(14, (.fork [(20, (.fork [(21, (.fork [(22, (.early 23 (.early 24 (.fork [(25, .done)]))))]))]))]))]))])), (19, (.fork [(9, (.fork [(14, (.fork [(20, (.fork [(21, (.fork [(22, (.early 23 (.early 24 (.fork [(25, .done)]))))]))]))]))]))]))])), (19, (.fork [(8, (.fork [(9, (.fork [(14, (.fork [(20, (.fork [(21, (.fork [(22, (.early 23 (.early 24 (.fork [(25, .done)]))))]))]))]))]))]))]))])), (19, (.fork [(8, (.fork [(9, (.fork [(13, (.fork [(14, (.fork [(20, (.fork [(21, (.fork [(22, (.early 23 (.early 24 (.fork [(25, .done)]))))]))]))]))]))])), (13, (.fork [(9, (.fork [(14, (.fork [(20, (.fork [(21, (.fork [(22, (.early 23 (.early 24 (.fork [(25, .done)]))))]))]))]))]))]))])), (13, (.fork [(8, (.fork [(9, (.fork [(14, (.fork [(20, (.fork [(21, (.fork [(22, (.early 23 (.early 24 (.fork [(25, .done)]))))]))]))]))]))]))]))]))]))))))))))))))))) .leaf)))
def tail40 (p0 : World) (p1 : Sl) (p2 : Sl) (p3 : Sl) (p4 : Sl) (p5 : List Nat) (p6 : World) (p7 : Sl) (p8 : Option Addr) (p9 : Sl) (p10 : SV → World →
  Prop) : Prop := ∀ (z0 : Nat) (z1 : World), Upd [] [z0] p0 z1 → (World.heap z1)[z0]? = some (Obj.cells { toList := SV.cells (SV.struct [SV.slice p1, SV.slice p2, SV.slice p3, SV.slice p4]) }
  34) → Kept p5 p6 z1 ∧ Vc.Append 34 1 24 p7 { ptr := some { block := z0, off := 0 }, len := 4, cap := 4 } [] z1 fun (z2 : Sl) (z3 : World) => deref p8 fun
  (z4 : Addr) => Store z3 z4 (SV.cells (SV.slice z2)) [] fun (z5 : World) => deref p8 fun (z6 : Addr) => ∃ (z7 : Sl), World.cell? z5 (Addr.add z6 2) = some
  (Sl.val z7) ∧ ∀ (z8 : Nat) (z9 : World), Upd [] [z8] z5 z9 → (World.heap z9)[z8]? = some (Obj.cells { toList := SV.cells (SV.struct [SV.int IntKind.u8 (wr IntKind.u8 (wr IntKind.i64 (Int.tmod (↑p9.2 : Int) 200 + 40))), SV.int IntKind.u8 (wr IntKind.u8 (wr IntKind.i64 (Int.tmod (↑p9.2 : Int) 200 + 40))), SV.int IntKind.u8 (wr IntKind.u8 (wr IntKind.i64 (Int.tmod (↑p9.2 : Int) 200 + 40))), SV.int IntKind.u8 (wr IntKind.u8 (wr IntKind.i64 (Int.tmod (↑p9.2 : Int) 200 + 40)))]) }
  5) → Vc.Append 5 1 1 z7 { ptr := some { block := z8, off := 0 }, len := 4, cap := 4 } [] z9 fun (z10 : Sl) (z11 : World) => deref p8 fun (z12 : Addr) =>
  Store z11 (Addr.add z12 2) (SV.cells (SV.slice z10)) [] fun (z13 : World) => p10 (SV.tuple []) z13
def vc40 (b : Option Addr) (l : Sl) (w : World) (R : SV → World → Prop) : Prop := deref b fun (a : Addr) => ∃ (s : Sl), World.cell? w a = some (Sl.val s)
  ∧ ∃ (I : Int → World → Prop), ∃ (M : Int → World → Nat), I 0 w ∧ ∀ (n : Int) (w1 : World), I n w1 → Br (decide (n < (↑l.2 : Int))) (Need (decide (0 ≤ n)
  && decide (n < (↑l.2 : Int)) && Option.isSome l.1) (Store w1 (Sl.at l 1 (Int.toNat n)) (SV.cells (SV.int IntKind.u8 (wr IntKind.u8 (wr IntKind.i64 (Int.tmod
  (↑s.2 : Int) 200 + 40))))) [] fun (w1_1 : World) => I (wr IntKind.i64 (n + 1)) w1_1 ∧ M (wr IntKind.i64 (n + 1)) w1_1 < M n w1)) (∃ (bs : List Nat), (∀
  (b : Nat), b ∈ bs → b < List.length (World.heap w1).1) ∧ deref b fun (a : Addr) => Addr.block a ∈ bs ∧ ∃ (s_1 : Sl), World.cell? w1 a = some (Sl.val s_1)
  ∧ (∀ (b_1 : Nat) (w1_1 : World), Upd [] [b_1] w1 w1_1 → (World.heap w1_1)[b_1]? = some (Obj.cells { toList := SV.cells (SV.struct [SV.int IntKind.u8 (wr IntKind.u8 (wr IntKind.i64 (Int.tmod (↑s.2 : Int) 200 + 40)))]) }
  5) → Kept bs w1 w1_1 ∧ (Vc.Append 5 1 1 l { ptr := some { block := b_1, off := 0 }, len := 1, cap := 1 } [] w1_1 fun (r : Sl) (w : World) => Kept bs w1
  w ∧ (∀ (b_2 : Nat) (w1_2 : World), Upd [] [b_2] w w1_2 → (World.heap w1_2)[b_2]? = some (Obj.cells { toList := SV.cells (SV.struct [SV.int IntKind.u8 (wr IntKind.u8 (wr IntKind.i64 (Int.tmod (↑s.2 : Int) 200 + 40))), SV.int IntKind.u8 (wr IntKind.u8 (wr IntKind.i64 (Int.tmod (↑s.2 : Int) 200 + 40)))]) }
  5) → Kept bs w1 w1_2 ∧ (Vc.Append 5 1 1 l { ptr := some { block := b_2, off := 0 }, len := 2, cap := 2 } [] w1_2 fun (r_1 : Sl) (w : World) => Kept bs w1
  w ∧ ∀ (b_3 : Nat) (w1_3 : World), Upd [] [b_3] w w1_3 → (World.heap w1_3)[b_3]? = some (Obj.cells { toList := SV.cells (SV.struct [SV.int IntKind.u8 (wr IntKind.u8 (wr IntKind.i64 (Int.tmod (↑s.2 : Int) 200 + 40))), SV.int IntKind.u8 (wr IntKind.u8 (wr IntKind.i64 (Int.tmod (↑s.2 : Int) 200 + 40))), SV.int IntKind.u8 (wr IntKind.u8 (wr IntKind.i64 (Int.tmod (↑s.2 : Int) 200 + 40)))]) }
  5) → Kept bs w1 w1_3 ∧ Vc.Append 5 1 1 l { ptr := some { block := b_3, off := 0 }, len := 3, cap := 3 } [] w1_3 fun (r_2 : Sl) (w : World) => Kept bs w1
  w ∧ tail40 w l r r_1 r_2 bs w1 s_1 b s R) ∧ ∀ (b_3 : Nat) (w1_3 : World), Upd [] [b_3] w1_2 w1_3 → (World.heap w1_3)[b_3]? = some (Obj.cells { toList := SV.cells (SV.struct [SV.int IntKind.u8 (wr IntKind.u8 (wr IntKind.i64 (Int.tmod (↑s.2 : Int) 200 + 40))), SV.int IntKind.u8 (wr IntKind.u8 (wr IntKind.i64 (Int.tmod (↑s.2 : Int) 200 + 40))), SV.int IntKind.u8 (wr IntKind.u8 (wr IntKind.i64 (Int.tmod (↑s.2 : Int) 200 + 40)))]) }
  5) → Kept bs w1 w1_3 ∧ Vc.Append 5 1 1 l { ptr := some { block := b_2, off := 0 }, len := 2, cap := 2 } [] w1_3 fun (r_1 : Sl) (w : World) => Kept bs w1
  w ∧ Vc.Append 5 1 1 l { ptr := some { block := b_3, off := 0 }, len := 3, cap := 3 } [] w fun (r_2 : Sl) (w : World) => Kept bs w1 w ∧ tail40 w l r r_1
  r_2 bs w1 s_1 b s R) ∧ ∀ (b_2 : Nat) (w1_2 : World), Upd [] [b_2] w w1_2 → (World.heap w1_2)[b_2]? = some (Obj.cells { toList := SV.cells (SV.struct [SV.int IntKind.u8 (wr IntKind.u8 (wr IntKind.i64 (Int.tmod (↑s.2 : Int) 200 + 40))), SV.int IntKind.u8 (wr IntKind.u8 (wr IntKind.i64 (Int.tmod (↑s.2 : Int) 200 + 40))), SV.int IntKind.u8 (wr IntKind.u8 (wr IntKind.i64 (Int.tmod (↑s.2 : Int) 200 + 40)))]) }
  5) → Kept bs w1 w1_2 ∧ ∀ (b_3 : Nat) (w1_3 : World), Upd [] [b_3] w1_2 w1_3 → (World.heap w1_3)[b_3]? = some (Obj.cells { toList := SV.cells (SV.struct [SV.int IntKind.u8 (wr IntKind.u8 (wr IntKind.i64 (Int.tmod (↑s.2 : Int) 200 + 40))), SV.int IntKind.u8 (wr IntKind.u8 (wr IntKind.i64 (Int.tmod (↑s.2 : Int) 200 + 40)))]) }
  5) → Kept bs w1 w1_3 ∧ Vc.Append 5 1 1 l { ptr := some { block := b_3, off := 0 }, len := 2, cap := 2 } [] w1_3 fun (r_1 : Sl) (w : World) => Kept bs w1
  w ∧ Vc.Append 5 1 1 l { ptr := some { block := b_2, off := 0 }, len := 3, cap := 3 } [] w fun (r_2 : Sl) (w : World) => Kept bs w1 w ∧ tail40 w l r r_1
  r_2 bs w1 s_1 b s R) ∧ (∀ (b_2 : Nat) (w1_2 : World), Upd [] [b_2] w1_1 w1_2 → (World.heap w1_2)[b_2]? = some (Obj.cells { toList := SV.cells (SV.struct [SV.int IntKind.u8 (wr IntKind.u8 (wr IntKind.i64 (Int.tmod (↑s.2 : Int) 200 + 40))), SV.int IntKind.u8 (wr IntKind.u8 (wr IntKind.i64 (Int.tmod (↑s.2 : Int) 200 + 40)))]) }
  5) → Kept bs w1 w1_2 ∧ (Vc.Append 5 1 1 l { ptr := some { block := b_1, off := 0 }, len := 1, cap := 1 } [] w1_2 fun (r : Sl) (w : World) => Kept bs w1
  w ∧ (Vc.Append 5 1 1 l { ptr := some { block := b_2, off := 0 }, len := 2, cap := 2 } [] w fun (r_1 : Sl) (w : World) => Kept bs w1 w ∧ ∀ (b_3 : Nat) (w1_3
  : World), Upd [] [b_3] w w1_3 → (World.heap w1_3)[b_3]? = some (Obj.cells { toList := SV.cells (SV.struct [SV.int IntKind.u8 (wr IntKind.u8 (wr IntKind.i64 (Int.tmod (↑s.2 : Int) 200 + 40))), SV.int IntKind.u8 (wr IntKind.u8 (wr IntKind.i64 (Int.tmod (↑s.2 : Int) 200 + 40))), SV.int IntKind.u8 (wr IntKind.u8 (wr IntKind.i64 (Int.tmod (↑s.2 : Int) 200 + 40)))]) }
  5) → Kept bs w1 w1_3 ∧ Vc.Append 5 1 1 l { ptr := some { block := b_3, off := 0 }, len := 3, cap := 3 } [] w1_3 fun (r_2 : Sl) (w : World) => Kept bs w1
  w ∧ tail40 w l r r_1 r_2 bs w1 s_1 b s R) ∧ ∀ (b_3 : Nat) (w1_3 : World), Upd [] [b_3] w w1_3 → (World.heap w1_3)[b_3]? = some (Obj.cells { toList := SV.cells (SV.struct [SV.int IntKind.u8 (wr IntKind.u8 (wr IntKind.i64 (Int.tmod (↑s.2 : Int) 200 + 40))), SV.int IntKind.u8 (wr IntKind.u8 (wr IntKind.i64 (Int.tmod (↑s.2 : Int) 200 + 40))), SV.int IntKind.u8 (wr IntKind.u8 (wr IntKind.i64 (Int.tmod (↑s.2 : Int) 200 + 40)))]) }
  5) → Kept bs w1 w1_3 ∧ Vc.Append 5 1 1 l { ptr := some { block := b_2, off := 0 }, len := 2, cap := 2 } [] w1_3 fun (r_1 : Sl) (w : World) => Kept bs w1
  w ∧ Vc.Append 5 1 1 l { ptr := some { block := b_3, off := 0 }, len := 3, cap := 3 } [] w fun (r_2 : Sl) (w : World) => Kept bs w1 w ∧ tail40 w l r r_1
  r_2 bs w1 s_1 b s R) ∧ ∀ (b_3 : Nat) (w1_3 : World), Upd [] [b_3] w1_2 w1_3 → (World.heap w1_3)[b_3]? = some (Obj.cells { toList := SV.cells (SV.struct [SV.int IntKind.u8 (wr IntKind.u8 (wr IntKind.i64 (Int.tmod (↑s.2 : Int) 200 + 40))), SV.int IntKind.u8 (wr IntKind.u8 (wr IntKind.i64 (Int.tmod (↑s.2 : Int) 200 + 40))), SV.int IntKind.u8 (wr IntKind.u8 (wr IntKind.i64 (Int.tmod (↑s.2 : Int) 200 + 40)))]) }
  5) → Kept bs w1 w1_3 ∧ Vc.Append 5 1 1 l { ptr := some { block := b_1, off := 0 }, len := 1, cap := 1 } [] w1_3 fun (r : Sl) (w : World) => Kept bs w1 w
  ∧ Vc.Append 5 1 1 l { ptr := some { block := b_2, off := 0 }, len := 2, cap := 2 } [] w fun (r_1 : Sl) (w : World) => Kept bs w1 w ∧ Vc.Append 5 1 1 l { ptr := some { block := b_3, off := 0 }, len := 3, cap := 3 }
  [] w fun (r_2 : Sl) (w : World) => Kept bs w1 w ∧ tail40 w l r r_1 r_2 bs w1 s_1 b s R) ∧ ∀ (b_2 : Nat) (w1_2 : World), Upd [] [b_2] w1_1 w1_2 → (World.heap
  w1_2)[b_2]? = some (Obj.cells { toList := SV.cells (SV.struct [SV.int IntKind.u8 (wr IntKind.u8 (wr IntKind.i64 (Int.tmod (↑s.2 : Int) 200 + 40))), SV.int IntKind.u8 (wr IntKind.u8 (wr IntKind.i64 (Int.tmod (↑s.2 : Int) 200 + 40))), SV.int IntKind.u8 (wr IntKind.u8 (wr IntKind.i64 (Int.tmod (↑s.2 : Int) 200 + 40)))]) }
  5) → Kept bs w1 w1_2 ∧ (Vc.Append 5 1 1 l { ptr := some { block := b_1, off := 0 }, len := 1, cap := 1 } [] w1_2 fun (r : Sl) (w : World) => Kept bs w1
  w ∧ ∀ (b_3 : Nat) (w1_3 : World), Upd [] [b_3] w w1_3 → (World.heap w1_3)[b_3]? = some (Obj.cells { toList := SV.cells (SV.struct [SV.int IntKind.u8 (wr IntKind.u8 (wr IntKind.i64 (Int.tmod (↑s.2 : Int) 200 + 40))), SV.int IntKind.u8 (wr IntKind.u8 (wr IntKind.i64 (Int.tmod (↑s.2 : Int) 200 + 40)))]) }
  5) → Kept bs w1 w1_3 ∧ Vc.Append 5 1 1 l { ptr := some { block := b_3, off := 0 }, len := 2, cap := 2 } [] w1_3 fun (r_1 : Sl) (w : World) => Kept bs w1
  w ∧ Vc.Append 5 1 1 l { ptr := some { block := b_2, off := 0 }, len := 3, cap := 3 } [] w fun (r_2 : Sl) (w : World) => Kept bs w1 w ∧ tail40 w l r r_1
  r_2 bs w1 s_1 b s R) ∧ ∀ (b_3 : Nat) (w1_3 : World), Upd [] [b_3] w1_2 w1_3 → (World.heap w1_3)[b_3]? = some (Obj.cells { toList := SV.cells (SV.struct [SV.int IntKind.u8 (wr IntKind.u8 (wr IntKind.i64 (Int.tmod (↑s.2 : Int) 200 + 40))), SV.int IntKind.u8 (wr IntKind.u8 (wr IntKind.i64 (Int.tmod (↑s.2 : Int) 200 + 40)))]) }
  5) → Kept bs w1 w1_3 ∧ Vc.Append 5 1 1 l { ptr := some { block := b_1, off := 0 }, len := 1, cap := 1 } [] w1_3 fun (r : Sl) (w : World) => Kept bs w1 w
  ∧ Vc.Append 5 1 1 l { ptr := some { block := b_3, off := 0 }, len := 2, cap := 2 } [] w fun (r_1 : Sl) (w : World) => Kept bs w1 w ∧ Vc.Append 5 1 1 l { ptr := some { block := b_2, off := 0 }, len := 3, cap := 3 }
  [] w fun (r_2 : Sl) (w : World) => Kept bs w1 w ∧ tail40 w l r r_1 r_2 bs w1 s_1 b s R) ∧ (∀ (b_1 : Nat) (w1_1 : World), Upd [] [b_1] w1 w1_1 → (World.heap
  w1_1)[b_1]? = some (Obj.cells { toList := SV.cells (SV.struct [SV.int IntKind.u8 (wr IntKind.u8 (wr IntKind.i64 (Int.tmod (↑s.2 : Int) 200 + 40))), SV.int IntKind.u8 (wr IntKind.u8 (wr IntKind.i64 (Int.tmod (↑s.2 : Int) 200 + 40)))]) }
  5) → Kept bs w1 w1_1 ∧ (∀ (b_2 : Nat) (w1_2 : World), Upd [] [b_2] w1_1 w1_2 → (World.heap w1_2)[b_2]? = some (Obj.cells { toList := SV.cells (SV.struct [SV.int IntKind.u8 (wr IntKind.u8 (wr IntKind.i64 (Int.tmod (↑s.2 : Int) 200 + 40)))]) }
  5) → Kept bs w1 w1_2 ∧ (Vc.Append 5 1 1 l { ptr := some { block := b_2, off := 0 }, len := 1, cap := 1 } [] w1_2 fun (r : Sl) (w : World) => Kept bs w1
  w ∧ (Vc.Append 5 1 1 l { ptr := some { block := b_1, off := 0 }, len := 2, cap := 2 } [] w fun (r_1 : Sl) (w : World) => Kept bs w1 w ∧ ∀ (b_3 : Nat) (w1_3
  : World), Upd [] [b_3] w w1_3 → (World.heap w1_3)[b_3]? = some (Obj.cells { toList := SV.cells (SV.struct [SV.int IntKind.u8 (wr IntKind.u8 (wr IntKind.i64 (Int.tmod (↑s.2 : Int) 200 + 40))), SV.int IntKind.u8 (wr IntKind.u8 (wr IntKind.i64 (Int.tmod (↑s.2 : Int) 200 + 40))), SV.int IntKind.u8 (wr IntKind.u8 (wr IntKind.i64 (Int.tmod (↑s.2 : Int) 200 + 40)))]) }
  5) → Kept bs w1 w1_3 ∧ Vc.Append 5 1 1 l { ptr := some { block := b_3, off := 0 }, len := 3, cap := 3 } [] w1_3 fun (r_2 : Sl) (w : World) => Kept bs w1
  w ∧ tail40 w l r r_1 r_2 bs w1 s_1 b s R) ∧ ∀ (b_3 : Nat) (w1_3 : World), Upd [] [b_3] w w1_3 → (World.heap w1_3)[b_3]? = some (Obj.cells { toList := SV.cells (SV.struct [SV.int IntKind.u8 (wr IntKind.u8 (wr IntKind.i64 (Int.tmod (↑s.2 : Int) 200 + 40))), SV.int IntKind.u8 (wr IntKind.u8 (wr IntKind.i64 (Int.tmod (↑s.2 : Int) 200 + 40))), SV.int IntKind.u8 (wr IntKind.u8 (wr IntKind.i64 (Int.tmod (↑s.2 : Int) 200 + 40)))]) }
  5) → Kept bs w1 w1_3 ∧ Vc.Append 5 1 1 l { ptr := some { block := b_1, off := 0 }, len := 2, cap := 2 } [] w1_3 fun (r_1 : Sl) (w : World) => Kept bs w1
  w ∧ Vc.Append 5 1 1 l { ptr := some { block := b_3, off := 0 }, len := 3, cap := 3 } [] w fun (r_2 : Sl) (w : World) => Kept bs w1 w ∧ tail40 w l r r_1
  r_2 bs w1 s_1 b s R) ∧ ∀ (b_3 : Nat) (w1_3 : World), Upd [] [b_3] w1_2 w1_3 → (World.heap w1_3)[b_3]? = some (Obj.cells { toList := SV.cells (SV.struct [SV.int IntKind.u8 (wr IntKind.u8 (wr IntKind.i64 (Int.tmod (↑s.2 : Int) 200 + 40))), SV.int IntKind.u8 (wr IntKind.u8 (wr IntKind.i64 (Int.tmod (↑s.2 : Int) 200 + 40))), SV.int IntKind.u8 (wr IntKind.u8 (wr IntKind.i64 (Int.tmod (↑s.2 : Int) 200 + 40)))]) }
  5) → Kept bs w1 w1_3 ∧ Vc.Append 5 1 1 l { ptr := some { block := b_2, off := 0 }, len := 1, cap := 1 } [] w1_3 fun (r : Sl) (w : World) => Kept bs w1 w
  ∧ Vc.Append 5 1 1 l { ptr := some { block := b_1, off := 0 }, len := 2, cap := 2 } [] w fun (r_1 : Sl) (w : World) => Kept bs w1 w ∧ Vc.Append 5 1 1 l { ptr := some { block := b_3, off := 0 }, len := 3, cap := 3 }
  [] w fun (r_2 : Sl) (w : World) => Kept bs w1 w ∧ tail40 w l r r_1 r_2 bs w1 s_1 b s R) ∧ ∀ (b_2 : Nat) (w1_2 : World), Upd [] [b_2] w1_1 w1_2 → (World.heap
  w1_2)[b_2]? = some (Obj.cells { toList := SV.cells (SV.struct [SV.int IntKind.u8 (wr IntKind.u8 (wr IntKind.i64 (Int.tmod (↑s.2 : Int) 200 + 40))), SV.int IntKind.u8 (wr IntKind.u8 (wr IntKind.i64 (Int.tmod (↑s.2 : Int) 200 + 40))), SV.int IntKind.u8 (wr IntKind.u8 (wr IntKind.i64 (Int.tmod (↑s.2 : Int) 200 + 40)))]) }
  5) → Kept bs w1 w1_2 ∧ ∀ (b_3 : Nat) (w1_3 : World), Upd [] [b_3] w1_2 w1_3 → (World.heap w1_3)[b_3]? = some (Obj.cells { toList := SV.cells (SV.struct [SV.int IntKind.u8 (wr IntKind.u8 (wr IntKind.i64 (Int.tmod (↑s.2 : Int) 200 + 40)))]) }
  5) → Kept bs w1 w1_3 ∧ Vc.Append 5 1 1 l { ptr := some { block := b_3, off := 0 }, len := 1, cap := 1 } [] w1_3 fun (r : Sl) (w : World) => Kept bs w1 w
  ∧ Vc.Append 5 1 1 l { ptr := some { block := b_1, off := 0 }, len := 2, cap := 2 } [] w fun (r_1 : Sl) (w : World) => Kept bs w1 w ∧ Vc.Append 5 1 1 l { ptr := some { block := b_2, off := 0 }, len := 3, cap := 3 }
  [] w fun (r_2 : Sl) (w : World) => Kept bs w1 w ∧ tail40 w l r r_1 r_2 bs w1 s_1 b s R) ∧ ∀ (b_1 : Nat) (w1_1 : World), Upd [] [b_1] w1 w1_1 → (World.heap
  w1_1)[b_1]? = some (Obj.cells { toList := SV.cells (SV.struct [SV.int IntKind.u8 (wr IntKind.u8 (wr IntKind.i64 (Int.tmod (↑s.2 : Int) 200 + 40))), SV.int IntKind.u8 (wr IntKind.u8 (wr IntKind.i64 (Int.tmod (↑s.2 : Int) 200 + 40))), SV.int IntKind.u8 (wr IntKind.u8 (wr IntKind.i64 (Int.tmod (↑s.2 : Int) 200 + 40)))]) }
  5) → Kept bs w1 w1_1 ∧ (∀ (b_2 : Nat) (w1_2 : World), Upd [] [b_2] w1_1 w1_2 → (World.heap w1_2)[b_2]? = some (Obj.cells { toList := SV.cells (SV.struct [SV.int IntKind.u8 (wr IntKind.u8 (wr IntKind.i64 (Int.tmod (↑s.2 : Int) 200 + 40)))]) }
  5) → Kept bs w1 w1_2 ∧ (Vc.Append 5 1 1 l { ptr := some { block := b_2, off := 0 }, len := 1, cap := 1 } [] w1_2 fun (r : Sl) (w : World) => Kept bs w1
  w ∧ ∀ (b_3 : Nat) (w1_3 : World), Upd [] [b_3] w w1_3 → (World.heap w1_3)[b_3]? = some (Obj.cells { toList := SV.cells (SV.struct [SV.int IntKind.u8 (wr IntKind.u8 (wr IntKind.i64 (Int.tmod (↑s.2 : Int) 200 + 40))), SV.int IntKind.u8 (wr IntKind.u8 (wr IntKind.i64 (Int.tmod (↑s.2 : Int) 200 + 40)))]) }
  5) → Kept bs w1 w1_3 ∧ Vc.Append 5 1 1 l { ptr := some { block := b_3, off := 0 }, len := 2, cap := 2 } [] w1_3 fun (r_1 : Sl) (w : World) => Kept bs w1
  w ∧ Vc.Append 5 1 1 l { ptr := some { block := b_1, off := 0 }, len := 3, cap := 3 } [] w fun (r_2 : Sl) (w : World) => Kept bs w1 w ∧ tail40 w l r r_1
  r_2 bs w1 s_1 b s R) ∧ ∀ (b_3 : Nat) (w1_3 : World), Upd [] [b_3] w1_2 w1_3 → (World.heap w1_3)[b_3]? = some (Obj.cells { toList := SV.cells (SV.struct [SV.int IntKind.u8 (wr IntKind.u8 (wr IntKind.i64 (Int.tmod (↑s.2 : Int) 200 + 40))), SV.int IntKind.u8 (wr IntKind.u8 (wr IntKind.i64 (Int.tmod (↑s.2 : Int) 200 + 40)))]) }
  5) → Kept bs w1 w1_3 ∧ Vc.Append 5 1 1 l { ptr := some { block := b_2, off := 0 }, len := 1, cap := 1 } [] w1_3 fun (r : Sl) (w : World) => Kept bs w1 w
  ∧ Vc.Append 5 1 1 l { ptr := some { block := b_3, off := 0 }, len := 2, cap := 2 } [] w fun (r_1 : Sl) (w : World) => Kept bs w1 w ∧ Vc.Append 5 1 1 l { ptr := some { block := b_1, off := 0 }, len := 3, cap := 3 }
  [] w fun (r_2 : Sl) (w : World) => Kept bs w1 w ∧ tail40 w l r r_1 r_2 bs w1 s_1 b s R) ∧ ∀ (b_2 : Nat) (w1_2 : World), Upd [] [b_2] w1_1 w1_2 → (World.heap
  w1_2)[b_2]? = some (Obj.cells { toList := SV.cells (SV.struct [SV.int IntKind.u8 (wr IntKind.u8 (wr IntKind.i64 (Int.tmod (↑s.2 : Int) 200 + 40))), SV.int IntKind.u8 (wr IntKind.u8 (wr IntKind.i64 (Int.tmod (↑s.2 : Int) 200 + 40)))]) }
  5) → Kept bs w1 w1_2 ∧ ∀ (b_3 : Nat) (w1_3 : World), Upd [] [b_3] w1_2 w1_3 → (World.heap w1_3)[b_3]? = some (Obj.cells { toList := SV.cells (SV.struct [SV.int IntKind.u8 (wr IntKind.u8 (wr IntKind.i64 (Int.tmod (↑s.2 : Int) 200 + 40)))]) }
  5) → Kept bs w1 w1_3 ∧ Vc.Append 5 1 1 l { ptr := some { block := b_3, off := 0 }, len := 1, cap := 1 } [] w1_3 fun (r : Sl) (w : World) => Kept bs w1 w
  ∧ Vc.Append 5 1 1 l { ptr := some { block := b_2, off := 0 }, len := 2, cap := 2 } [] w fun (r_1 : Sl) (w : World) => Kept bs w1 w ∧ Vc.Append 5 1 1 l { ptr := some { block := b_1, off := 0 }, len := 3, cap := 3 }
  [] w fun (r_2 : Sl) (w : World) => Kept bs w1 w ∧ tail40 w l r r_1 r_2 bs w1 s_1 b s R)
theorem f40_of (b : Option Addr) (l : Sl) (w : World) (R : SV → World → Prop) (hV : vc40 b l w R) : Ret Try.prog 40 [.ptr b, .slice l] w R :=
  have e : vc40 b l w R = fnVC X Try.f40 a1040 [.ptr b, .slice l] w R := by kernel_rfl
  fnVC_sound X_ok (n := a1040) (e ▸ hV) (by kernel_rfl) (by kernel_rfl) rfl rfl

def a1036 : Ann := (.seq .leaf (.seq .leaf (.seq (.seq .leaf (.block (.loop [(.t 6, (.int .i64))] [0] (.seq (.seq .leaf (.cond .leaf .leaf)) (.seq (.block .leaf) .leaf))))) (.seq (.drawK [] (.early 0 (.early 1 (.early 2 (.early 3 (.early 4 (.early 5 (.early 6 (.early 7 (.early 10 (.early 11 (.early 12 (.early 15 (.early 16 (.early 17 (.early 18 (.fork [(8, (.fork [(9, (.fork [(13, (.fork [(14, (.fork [(19, (.fork [(20, (.fork [(21, (.fork [(22, (.early 23 (.early 24 (.fork [(25, .done)]))))]))]))]))])), (19, (.fork [(14, (.fork [(20, (.fork [(21, (.fork [(22, (.early 23 (.early 24 (.fork [(25, .done)]))))]))]))]))]))])), (19, (.fork [(13, (.fork [(14, (.fork [(20, (.fork [(21, (.fork [(22, (.early 23 (.early 24 (.fork [(25, .done)]))))]))]))]))]))]))])), (13, (.fork [(9, (.fork [(14, (.fork [(19, (.fork [(20, (.fork [(21, (.fork [(22, (.early 23 (.early 24 (.fork [(25, .done)]))))]))]))]))])), (19, (.fork [(14, (.fork [(20, (.fork [(21, (.fork [(22, (.early 23 (.early 24 (.fork [(25, .done)]))))]))]))]))]))])), (19, (.fork [(9, (.fork [(14, (.fork [(20, (.fork [(21, (.fork [(22, (.early 23 (.early 24 (.fork [(25, .done)]))))]))]))]))]))]))])), (19, (.fork [(9, (.fork [(13, (.fork [(14, (.fork [(20, (.fork [(21, (.fork [(22, (.early 23 (.early 24 (.fork [(25, .done)]))))]))]))]))]))])), (13, (.fork [(9, (.fork [(14, (.fork [(20, (.fork [(21, (.fork [(22, (.early 23 (.early 24 (.fork [(25, .done)]))))]))]))]))]))]))]))])), (13, (.fork [(8, (.fork [(9, (.fork [(14, (.fork [(19, (.fork [(20, (.fork [(21, (.fork [(22, (.early 23 (.early 24 (.fork [(25, .done)]))))]))]))]))])), (19, (.fork [(14, (.fork [(20, (.fork [(21, (.fork [(22, (.early 23 (.early 24 (.fork [(25, .done)]))))]))]))]))]))])), (19, (.fork [(9, (.fork [(14, (.fork [(20, (.fork [(21, (.fork [(22, (.early 23 (.early 24 (.fork [(25, .done)]))))]))]))]))]))]))])), (19, (.fork [(8, (.fork [(9, (.fork [(14, (.fork [(20, (.fork [(21, (.fork [(22, (.early 23 (.early 24 (.fork [(25, .done)]))))]))]))]))]))]))]))])), (19, (.fork [(8, (.fork [(9, (.fork [(13, (.fork [(14, (.fork [(20, (.fork [(21, (.fork [(22, (.early 23 (.early 24 (.fork [(25, .done)]))))]))]))]))]))])), (13, (.fork [(9, (.fork [(14, (.fork [(20, (.fork [(21, (.fork [(22, (.early 23 (.early 24 (.fork [(25, .done)]))))]))]))]))]))]))])), (13, (.fork [(8, (.fork [(9, (.fork [(14, (.fork [(20, (.fork [(21, (.fork [(22, (.early 23 (.early 24 (.fork [(25, .done)]))))]))]))]))]))]))]))]))]))))))))))))))))) .leaf))))
def tail36 (p0 : World) (p1 : Sl) (p2 : Sl) (p3 : Sl) (p4 : Sl) (p5 : List Nat) (p6 : World) (p7 : Sl) (p8 : Nat) (p9 : Option Addr) (p10 : Sl) (p11 : SV
  → World → Prop) : Prop := ∀ (z0 : Nat) (z1 : World), Upd [] [z0] p0 z1 → (World.heap z1)[z0]? = some (Obj.cells { toList := SV.cells (SV.struct [SV.slice p1, SV.slice p2, SV.slice p3, SV.slice p4]) }
  27) → Kept p5 p6 z1 ∧ Vc.Append 27 1 24 p7 { ptr := some { block := z0, off := 0 }, len := 4, cap := 4 } [p8] z1 fun (z2 : Sl) (z3 : World) => deref p9
  fun (z4 : Addr) => Store z3 (Addr.add z4 1) (SV.cells (SV.slice z2)) [p8] fun (z5 : World) => deref p9 fun (z6 : Addr) => ∃ (z7 : Sl), World.cell? z5 (Addr.add
  z6 3) = some (Sl.val z7) ∧ ∀ (z8 : Nat) (z9 : World), Upd [] [z8] z5 z9 → (World.heap z9)[z8]? = some (Obj.cells { toList := SV.cells (SV.struct [SV.int IntKind.i64 (wr IntKind.i64 (wr IntKind.i64 (0 - (↑p10.2 : Int)) - 7)), SV.int IntKind.i64 (wr IntKind.i64 (wr IntKind.i64 (0 - (↑p10.2 : Int)) - 7)), SV.int IntKind.i64 (wr IntKind.i64 (wr IntKind.i64 (0 - (↑p10.2 : Int)) - 7)), SV.int IntKind.i64 (wr IntKind.i64 (wr IntKind.i64 (0 - (↑p10.2 : Int)) - 7))]) }
  3) → Vc.Append 3 1 8 z7 { ptr := some { block := z8, off := 0 }, len := 4, cap := 4 } [p8] z9 fun (z10 : Sl) (z11 : World) => deref p9 fun (z12 : Addr)
  => Store z11 (Addr.add z12 3) (SV.cells (SV.slice z10)) [p8] fun (z13 : World) => p11 (SV.tuple []) z13
def vc36 (b : Option Addr) (l : Sl) (w : World) (R : SV → World → Prop) : Prop := deref b fun (a : Addr) => ∃ (s : Sl), World.cell? w (Addr.add a 1) = some
  (Sl.val s) ∧ ∀ (b_1 : Nat), ∃ (I : Int → World → Prop), ∃ (M : Int → World → Nat), (∀ (w1 : World), Upd [] [b_1] w w1 → I 0 w1) ∧ ∀ (n : Int) (w1 : World),
  I n w1 → Br (decide (n < (↑l.2 : Int))) (Need (decide (0 ≤ n) && decide (n < (↑l.2 : Int)) && Option.isSome l.1) (Store w1 (Sl.at l 2 (Int.toNat n)) (SV.cells
  (SV.arr IntKind.i64 2 (fset (fset (fun (x : Nat) => 0) 0 (wr IntKind.i64 (wr IntKind.i64 (0 - (↑s.2 : Int)) - 7))) 1 (wr IntKind.i64 (wr IntKind.i64 (0
  - (↑s.2 : Int)) - 7))))) [b_1] fun (w1_1 : World) => some (SV.box b_1 29 (SV.arr IntKind.i64 2 (fset (fset (fun (x : Nat) => 0) 0 (wr IntKind.i64 (wr IntKind.i64
  (0 - (↑s.2 : Int)) - 7))) 1 (wr IntKind.i64 (wr IntKind.i64 (0 - (↑s.2 : Int)) - 7))))) = some (SV.box b_1 29 (SV.arr IntKind.i64 2 (fset (fset (fun (x
  : Nat) => 0) 0 (wr IntKind.i64 (wr IntKind.i64 (0 - (↑s.2 : Int)) - 7))) 1 (wr IntKind.i64 (wr IntKind.i64 (0 - (↑s.2 : Int)) - 7))))) ∧ I (wr IntKind.i64
  (n + 1)) w1_1 ∧ M (wr IntKind.i64 (n + 1)) w1_1 < M n w1)) (∃ (bs : List Nat), (∀ (b : Nat), b ∈ bs → b < List.length (World.heap w1).1) ∧ deref b fun (a
  : Addr) => Addr.block (Addr.add a 1) ∈ bs ∧ ∃ (s_1 : Sl), World.cell? w1 (Addr.add a 1) = some (Sl.val s_1) ∧ (∀ (b_2 : Nat) (w1_1 : World), Upd [] [b_2]
  w1 w1_1 → (World.heap w1_1)[b_2]? = some (Obj.cells { toList := SV.cells (SV.struct [SV.arr IntKind.i64 2 (fset (fset (fun (x : Nat) => 0) 0 (wr IntKind.i64 (wr IntKind.i64 (0 - (↑s.2 : Int)) - 7))) 1 (wr IntKind.i64 (wr IntKind.i64 (0 - (↑s.2 : Int)) - 7)))]) }
  29) → Kept bs w1 w1_1 ∧ (Vc.Append 29 2 16 l { ptr := some { block := b_2, off := 0 }, len := 1, cap := 1 } [b_1] w1_1 fun (r : Sl) (w : World) => Kept
  bs w1 w ∧ (∀ (b_3 : Nat) (w1_2 : World), Upd [] [b_3] w w1_2 → (World.heap w1_2)[b_3]? = some (Obj.cells { toList := SV.cells (SV.struct [SV.arr IntKind.i64 2 (fset (fset (fun (x : Nat) => 0) 0 (wr IntKind.i64 (wr IntKind.i64 (0 - (↑s.2 : Int)) - 7))) 1 (wr IntKind.i64 (wr IntKind.i64 (0 - (↑s.2 : Int)) - 7))), SV.arr IntKind.i64 2 (fset (fset (fun (x : Nat) => 0) 0 (wr IntKind.i64 (wr IntKind.i64 (0 - (↑s.2 : Int)) - 7))) 1 (wr IntKind.i64 (wr IntKind.i64 (0 - (↑s.2 : Int)) - 7)))]) }
  29) → Kept bs w1 w1_2 ∧ (Vc.Append 29 2 16 l { ptr := some { block := b_3, off := 0 }, len := 2, cap := 2 } [b_1] w1_2 fun (r_1 : Sl) (w : World) => Kept
  bs w1 w ∧ ∀ (b_4 : Nat) (w1_3 : World), Upd [] [b_4] w w1_3 → (World.heap w1_3)[b_4]? = some (Obj.cells { toList := SV.cells (SV.struct [SV.arr IntKind.i64 2 (fset (fset (fun (x : Nat) => 0) 0 (wr IntKind.i64 (wr IntKind.i64 (0 - (↑s.2 : Int)) - 7))) 1 (wr IntKind.i64 (wr IntKind.i64 (0 - (↑s.2 : Int)) - 7))), SV.arr IntKind.i64 2 (fset (fset (fun (x : Nat) => 0) 0 (wr IntKind.i64 (wr IntKind.i64 (0 - (↑s.2 : Int)) - 7))) 1 (wr IntKind.i64 (wr IntKind.i64 (0 - (↑s.2 : Int)) - 7))), SV.arr IntKind.i64 2 (fset (fset (fun (x : Nat) => 0) 0 (wr IntKind.i64 (wr IntKind.i64 (0 - (↑s.2 : Int)) - 7))) 1 (wr IntKind.i64 (wr IntKind.i64 (0 - (↑s.2 : Int)) - 7)))]) }
  29) → Kept bs w1 w1_3 ∧ Vc.Append 29 2 16 l { ptr := some { block := b_4, off := 0 }, len := 3, cap := 3 } [b_1] w1_3 fun (r_2 : Sl) (w : World) => Kept
  bs w1 w ∧ tail36 w l r r_1 r_2 bs w1 s_1 b_1 b s R) ∧ ∀ (b_4 : Nat) (w1_3 : World), Upd [] [b_4] w1_2 w1_3 → (World.heap w1_3)[b_4]? = some (Obj.cells { toList := SV.cells (SV.struct [SV.arr IntKind.i64 2 (fset (fset (fun (x : Nat) => 0) 0 (wr IntKind.i64 (wr IntKind.i64 (0 - (↑s.2 : Int)) - 7))) 1 (wr IntKind.i64 (wr IntKind.i64 (0 - (↑s.2 : Int)) - 7))), SV.arr IntKind.i64 2 (fset (fset (fun (x : Nat) => 0) 0 (wr IntKind.i64 (wr IntKind.i64 (0 - (↑s.2 : Int)) - 7))) 1 (wr IntKind.i64 (wr IntKind.i64 (0 - (↑s.2 : Int)) - 7))), SV.arr IntKind.i64 2 (fset (fset (fun (x : Nat) => 0) 0 (wr IntKind.i64 (wr IntKind.i64 (0 - (↑s.2 : Int)) - 7))) 1 (wr IntKind.i64 (wr IntKind.i64 (0 - (↑s.2 : Int)) - 7)))]) }
  29) → Kept bs w1 w1_3 ∧ Vc.Append 29 2 16 l { ptr := some { block := b_3, off := 0 }, len := 2, cap := 2 } [b_1] w1_3 fun (r_1 : Sl) (w : World) => Kept
  bs w1 w ∧ Vc.Append 29 2 16 l { ptr := some { block := b_4, off := 0 }, len := 3, cap := 3 } [b_1] w fun (r_2 : Sl) (w : World) => Kept bs w1 w ∧ tail36
  w l r r_1 r_2 bs w1 s_1 b_1 b s R) ∧ ∀ (b_3 : Nat) (w1_2 : World), Upd [] [b_3] w w1_2 → (World.heap w1_2)[b_3]? = some (Obj.cells { toList := SV.cells (SV.struct [SV.arr IntKind.i64 2 (fset (fset (fun (x : Nat) => 0) 0 (wr IntKind.i64 (wr IntKind.i64 (0 - (↑s.2 : Int)) - 7))) 1 (wr IntKind.i64 (wr IntKind.i64 (0 - (↑s.2 : Int)) - 7))), SV.arr IntKind.i64 2 (fset (fset (fun (x : Nat) => 0) 0 (wr IntKind.i64 (wr IntKind.i64 (0 - (↑s.2 : Int)) - 7))) 1 (wr IntKind.i64 (wr IntKind.i64 (0 - (↑s.2 : Int)) - 7))), SV.arr IntKind.i64 2 (fset (fset (fun (x : Nat) => 0) 0 (wr IntKind.i64 (wr IntKind.i64 (0 - (↑s.2 : Int)) - 7))) 1 (wr IntKind.i64 (wr IntKind.i64 (0 - (↑s.2 : Int)) - 7)))]) }
  29) → Kept bs w1 w1_2 ∧ ∀ (b_4 : Nat) (w1_3 : World), Upd [] [b_4] w1_2 w1_3 → (World.heap w1_3)[b_4]? = some (Obj.cells { toList := SV.cells (SV.struct [SV.arr IntKind.i64 2 (fset (fset (fun (x : Nat) => 0) 0 (wr IntKind.i64 (wr IntKind.i64 (0 - (↑s.2 : Int)) - 7))) 1 (wr IntKind.i64 (wr IntKind.i64 (0 - (↑s.2 : Int)) - 7))), SV.arr IntKind.i64 2 (fset (fset (fun (x : Nat) => 0) 0 (wr IntKind.i64 (wr IntKind.i64 (0 - (↑s.2 : Int)) - 7))) 1 (wr IntKind.i64 (wr IntKind.i64 (0 - (↑s.2 : Int)) - 7)))]) }
  29) → Kept bs w1 w1_3 ∧ Vc.Append 29 2 16 l { ptr := some { block := b_4, off := 0 }, len := 2, cap := 2 } [b_1] w1_3 fun (r_1 : Sl) (w : World) => Kept
  bs w1 w ∧ Vc.Append 29 2 16 l { ptr := some { block := b_3, off := 0 }, len := 3, cap := 3 } [b_1] w fun (r_2 : Sl) (w : World) => Kept bs w1 w ∧ tail36
  w l r r_1 r_2 bs w1 s_1 b_1 b s R) ∧ (∀ (b_3 : Nat) (w1_2 : World), Upd [] [b_3] w1_1 w1_2 → (World.heap w1_2)[b_3]? = some (Obj.cells { toList := SV.cells (SV.struct [SV.arr IntKind.i64 2 (fset (fset (fun (x : Nat) => 0) 0 (wr IntKind.i64 (wr IntKind.i64 (0 - (↑s.2 : Int)) - 7))) 1 (wr IntKind.i64 (wr IntKind.i64 (0 - (↑s.2 : Int)) - 7))), SV.arr IntKind.i64 2 (fset (fset (fun (x : Nat) => 0) 0 (wr IntKind.i64 (wr IntKind.i64 (0 - (↑s.2 : Int)) - 7))) 1 (wr IntKind.i64 (wr IntKind.i64 (0 - (↑s.2 : Int)) - 7)))]) }
  29) → Kept bs w1 w1_2 ∧ (Vc.Append 29 2 16 l { ptr := some { block := b_2, off := 0 }, len := 1, cap := 1 } [b_1] w1_2 fun (r : Sl) (w : World) => Kept
  bs w1 w ∧ (Vc.Append 29 2 16 l { ptr := some { block := b_3, off := 0 }, len := 2, cap := 2 } [b_1] w fun (r_1 : Sl) (w : World) => Kept bs w1 w ∧ ∀ (b_4
  : Nat) (w1_3 : World), Upd [] [b_4] w w1_3 → (World.heap w1_3)[b_4]? = some (Obj.cells { toList := SV.cells (SV.struct [SV.arr IntKind.i64 2 (fset (fset (fun (x : Nat) => 0) 0 (wr IntKind.i64 (wr IntKind.i64 (0 - (↑s.2 : Int)) - 7))) 1 (wr IntKind.i64 (wr IntKind.i64 (0 - (↑s.2 : Int)) - 7))), SV.arr IntKind.i64 2 (fset (fset (fun (x : Nat) => 0) 0 (wr IntKind.i64 (wr IntKind.i64 (0 - (↑s.2 : Int)) - 7))) 1 (wr IntKind.i64 (wr IntKind.i64 (0 - (↑s.2 : Int)) - 7))), SV.arr IntKind.i64 2 (fset (fset (fun (x : Nat) => 0) 0 (wr IntKind.i64 (wr IntKind.i64 (0 - (↑s.2 : Int)) - 7))) 1 (wr IntKind.i64 (wr IntKind.i64 (0 - (↑s.2 : Int)) - 7)))]) }
  29) → Kept bs w1 w1_3 ∧ Vc.Append 29 2 16 l { ptr := some { block := b_4, off := 0 }, len := 3, cap := 3 } [b_1] w1_3 fun (r_2 : Sl) (w : World) => Kept
  bs w1 w ∧ tail36 w l r r_1 r_2 bs w1 s_1 b_1 b s R) ∧ ∀ (b_4 : Nat) (w1_3 : World), Upd [] [b_4] w w1_3 → (World.heap w1_3)[b_4]? = some (Obj.cells { toList := SV.cells (SV.struct [SV.arr IntKind.i64 2 (fset (fset (fun (x : Nat) => 0) 0 (wr IntKind.i64 (wr IntKind.i64 (0 - (↑s.2 : Int)) - 7))) 1 (wr IntKind.i64 (wr IntKind.i64 (0 - (↑s.2 : Int)) - 7))), SV.arr IntKind.i64 2 (fset (fset (fun (x : Nat) => 0) 0 (wr IntKind.i64 (wr IntKind.i64 (0 - (↑s.2 : Int)) - 7))) 1 (wr IntKind.i64 (wr IntKind.i64 (0 - (↑s.2 : Int)) - 7))), SV.arr IntKind.i64 2 (fset (fset (fun (x : Nat) => 0) 0 (wr IntKind.i64 (wr IntKind.i64 (0 - (↑s.2 : Int)) - 7))) 1 (wr IntKind.i64 (wr IntKind.i64 (0 - (↑s.2 : Int)) - 7)))]) }
  29) → Kept bs w1 w1_3 ∧ Vc.Append 29 2 16 l { ptr := some { block := b_3, off := 0 }, len := 2, cap := 2 } [b_1] w1_3 fun (r_1 : Sl) (w : World) => Kept
  bs w1 w ∧ Vc.Append 29 2 16 l { ptr := some { block := b_4, off := 0 }, len := 3, cap := 3 } [b_1] w fun (r_2 : Sl) (w : World) => Kept bs w1 w ∧ tail36
  w l r r_1 r_2 bs w1 s_1 b_1 b s R) ∧ ∀ (b_4 : Nat) (w1_3 : World), Upd [] [b_4] w1_2 w1_3 → (World.heap w1_3)[b_4]? = some (Obj.cells { toList := SV.cells (SV.struct [SV.arr IntKind.i64 2 (fset (fset (fun (x : Nat) => 0) 0 (wr IntKind.i64 (wr IntKind.i64 (0 - (↑s.2 : Int)) - 7))) 1 (wr IntKind.i64 (wr IntKind.i64 (0 - (↑s.2 : Int)) - 7))), SV.arr IntKind.i64 2 (fset (fset (fun (x : Nat) => 0) 0 (wr IntKind.i64 (wr IntKind.i64 (0 - (↑s.2 : Int)) - 7))) 1 (wr IntKind.i64 (wr IntKind.i64 (0 - (↑s.2 : Int)) - 7))), SV.arr IntKind.i64 2 (fset (fset (fun (x : Nat) => 0) 0 (wr IntKind.i64 (wr IntKind.i64 (0 - (↑s.2 : Int)) - 7))) 1 (wr IntKind.i64 (wr IntKind.i64 (0 - (↑s.2 : Int)) - 7)))]) }
  29) → Kept bs w1 w1_3 ∧ Vc.Append 29 2 16 l { ptr := some { block := b_2, off := 0 }, len := 1, cap := 1 } [b_1] w1_3 fun (r : Sl) (w : World) => Kept bs
  w1 w ∧ Vc.Append 29 2 16 l { ptr := some { block := b_3, off := 0 }, len := 2, cap := 2 } [b_1] w fun (r_1 : Sl) (w : World) => Kept bs w1 w ∧ Vc.Append
  29 2 16 l { ptr := some { block := b_4, off := 0 }, len := 3, cap := 3 } [b_1] w fun (r_2 : Sl) (w : World) => Kept bs w1 w ∧ tail36 w l r r_1 r_2 bs w1
  s_1 b_1 b s R) ∧ ∀ (b_3 : Nat) (w1_2 : World), Upd [] [b_3] w1_1 w1_2 → (World.heap w1_2)[b_3]? = some (Obj.cells { toList := SV.cells (SV.struct [SV.arr IntKind.i64 2 (fset (fset (fun (x : Nat) => 0) 0 (wr IntKind.i64 (wr IntKind.i64 (0 - (↑s.2 : Int)) - 7))) 1 (wr IntKind.i64 (wr IntKind.i64 (0 - (↑s.2 : Int)) - 7))), SV.arr IntKind.i64 2 (fset (fset (fun (x : Nat) => 0) 0 (wr IntKind.i64 (wr IntKind.i64 (0 - (↑s.2 : Int)) - 7))) 1 (wr IntKind.i64 (wr IntKind.i64 (0 - (↑s.2 : Int)) - 7))), SV.arr IntKind.i64 2 (fset (fset (fun (x : Nat) => 0) 0 (wr IntKind.i64 (wr IntKind.i64 (0 - (↑s.2 : Int)) - 7))) 1 (wr IntKind.i64 (wr IntKind.i64 (0 - (↑s.2 : Int)) - 7)))]) }
  29) → Kept bs w1 w1_2 ∧ (Vc.Append 29 2 16 l { ptr := some { block := b_2, off := 0 }, len := 1, cap := 1 } [b_1] w1_2 fun (r : Sl) (w : World) => Kept
  bs w1 w ∧ ∀ (b_4 : Nat) (w1_3 : World), Upd [] [b_4] w w1_3 → (World.heap w1_3)[b_4]? = some (Obj.cells { toList := SV.cells (SV.struct [SV.arr IntKind.i64 2 (fset (fset (fun (x : Nat) => 0) 0 (wr IntKind.i64 (wr IntKind.i64 (0 - (↑s.2 : Int)) - 7))) 1 (wr IntKind.i64 (wr IntKind.i64 (0 - (↑s.2 : Int)) - 7))), SV.arr IntKind.i64 2 (fset (fset (fun (x : Nat) => 0) 0 (wr IntKind.i64 (wr IntKind.i64 (0 - (↑s.2 : Int)) - 7))) 1 (wr IntKind.i64 (wr IntKind.i64 (0 - (↑s.2 : Int)) - 7)))]) }
  29) → Kept bs w1 w1_3 ∧ Vc.Append 29 2 16 l { ptr := some { block := b_4, off := 0 }, len := 2, cap := 2 } [b_1] w1_3 fun (r_1 : Sl) (w : World) => Kept
  bs w1 w ∧ Vc.Append 29 2 16 l { ptr := some { block := b_3, off := 0 }, len := 3, cap := 3 } [b_1] w fun (r_2 : Sl) (w : World) => Kept bs w1 w ∧ tail36
  w l r r_1 r_2 bs w1 s_1 b_1 b s R) ∧ ∀ (b_4 : Nat) (w1_3 : World), Upd [] [b_4] w1_2 w1_3 → (World.heap w1_3)[b_4]? = some (Obj.cells { toList := SV.cells (SV.struct [SV.arr IntKind.i64 2 (fset (fset (fun (x : Nat) => 0) 0 (wr IntKind.i64 (wr IntKind.i64 (0 - (↑s.2 : Int)) - 7))) 1 (wr IntKind.i64 (wr IntKind.i64 (0 - (↑s.2 : Int)) - 7))), SV.arr IntKind.i64 2 (fset (fset (fun (x : Nat) => 0) 0 (wr IntKind.i64 (wr IntKind.i64 (0 - (↑s.2 : Int)) - 7))) 1 (wr IntKind.i64 (wr IntKind.i64 (0 - (↑s.2 : Int)) - 7)))]) }
  29) → Kept bs w1 w1_3 ∧ Vc.Append 29 2 16 l { ptr := some { block := b_2, off := 0 }, len := 1, cap := 1 } [b_1] w1_3 fun (r : Sl) (w : World) => Kept bs
  w1 w ∧ Vc.Append 29 2 16 l { ptr := some { block := b_4, off := 0 }, len := 2, cap := 2 } [b_1] w fun (r_1 : Sl) (w : World) => Kept bs w1 w ∧ Vc.Append
  29 2 16 l { ptr := some { block := b_3, off := 0 }, len := 3, cap := 3 } [b_1] w fun (r_2 : Sl) (w : World) => Kept bs w1 w ∧ tail36 w l r r_1 r_2 bs w1
  s_1 b_1 b s R) ∧ (∀ (b_2 : Nat) (w1_1 : World), Upd [] [b_2] w1 w1_1 → (World.heap w1_1)[b_2]? = some (Obj.cells { toList := SV.cells (SV.struct [SV.arr IntKind.i64 2 (fset (fset (fun (x : Nat) => 0) 0 (wr IntKind.i64 (wr IntKind.i64 (0 - (↑s.2 : Int)) - 7))) 1 (wr IntKind.i64 (wr IntKind.i64 (0 - (↑s.2 : Int)) - 7))), SV.arr IntKind.i64 2 (fset (fset (fun (x : Nat) => 0) 0 (wr IntKind.i64 (wr IntKind.i64 (0 - (↑s.2 : Int)) - 7))) 1 (wr IntKind.i64 (wr IntKind.i64 (0 - (↑s.2 : Int)) - 7)))]) }
  29) → Kept bs w1 w1_1 ∧ (∀ (b_3 : Nat) (w1_2 : World), Upd [] [b_3] w1_1 w1_2 → (World.heap w1_2)[b_3]? = some (Obj.cells { toList := SV.cells (SV.struct [SV.arr IntKind.i64 2 (fset (fset (fun (x : Nat) => 0) 0 (wr IntKind.i64 (wr IntKind.i64 (0 - (↑s.2 : Int)) - 7))) 1 (wr IntKind.i64 (wr IntKind.i64 (0 - (↑s.2 : Int)) - 7)))]) }
  29) → Kept bs w1 w1_2 ∧ (Vc.Append 29 2 16 l { ptr := some { block := b_3, off := 0 }, len := 1, cap := 1 } [b_1] w1_2 fun (r : Sl) (w : World) => Kept
  bs w1 w ∧ (Vc.Append 29 2 16 l { ptr := some { block := b_2, off := 0 }, len := 2, cap := 2 } [b_1] w fun (r_1 : Sl) (w : World) => Kept bs w1 w ∧ ∀ (b_4
  : Nat) (w1_3 : World), Upd [] [b_4] w w1_3 → (World.heap w1_3)[b_4]? = some (Obj.cells { toList := SV.cells (SV.struct [SV.arr IntKind.i64 2 (fset (fset (fun (x : Nat) => 0) 0 (wr IntKind.i64 (wr IntKind.i64 (0 - (↑s.2 : Int)) - 7))) 1 (wr IntKind.i64 (wr IntKind.i64 (0 - (↑s.2 : Int)) - 7))), SV.arr IntKind.i64 2 (fset (fset (fun (x : Nat) => 0) 0 (wr IntKind.i64 (wr IntKind.i64 (0 - (↑s.2 : Int)) - 7))) 1 (wr IntKind.i64 (wr IntKind.i64 (0 - (↑s.2 : Int)) - 7))), SV.arr IntKind.i64 2 (fset (fset (fun (x : Nat) => 0) 0 (wr IntKind.i64 (wr IntKind.i64 (0 - (↑s.2 : Int)) - 7))) 1 (wr IntKind.i64 (wr IntKind.i64 (0 - (↑s.2 : Int)) - 7)))]) }
  29) → Kept bs w1 w1_3 ∧ Vc.Append 29 2 16 l { ptr := some { block := b_4, off := 0 }, len := 3, cap := 3 } [b_1] w1_3 fun (r_2 : Sl) (w : World) => Kept
  bs w1 w ∧ tail36 w l r r_1 r_2 bs w1 s_1 b_1 b s R) ∧ ∀ (b_4 : Nat) (w1_3 : World), Upd [] [b_4] w w1_3 → (World.heap w1_3)[b_4]? = some (Obj.cells { toList := SV.cells (SV.struct [SV.arr IntKind.i64 2 (fset (fset (fun (x : Nat) => 0) 0 (wr IntKind.i64 (wr IntKind.i64 (0 - (↑s.2 : Int)) - 7))) 1 (wr IntKind.i64 (wr IntKind.i64 (0 - (↑s.2 : Int)) - 7))), SV.arr IntKind.i64 2 (fset (fset (fun (x : Nat) => 0) 0 (wr IntKind.i64 (wr IntKind.i64 (0 - (↑s.2 : Int)) - 7))) 1 (wr IntKind.i64 (wr IntKind.i64 (0 - (↑s.2 : Int)) - 7))), SV.arr IntKind.i64 2 (fset (fset (fun (x : Nat) => 0) 0 (wr IntKind.i64 (wr IntKind.i64 (0 - (↑s.2 : Int)) - 7))) 1 (wr IntKind.i64 (wr IntKind.i64 (0 - (↑s.2 : Int)) - 7)))]) }
  29) → Kept bs w1 w1_3 ∧ Vc.Append 29 2 16 l { ptr := some { block := b_2, off := 0 }, len := 2, cap := 2 } [b_1] w1_3 fun (r_1 : Sl) (w : World) => Kept
  bs w1 w ∧ Vc.Append 29 2 16 l { ptr := some { block := b_4, off := 0 }, len := 3, cap := 3 } [b_1] w fun (r_2 : Sl) (w : World) => Kept bs w1 w ∧ tail36
  w l r r_1 r_2 bs w1 s_1 b_1 b s R) ∧ ∀ (b_4 : Nat) (w1_3 : World), Upd [] [b_4] w1_2 w1_3 → (World.heap w1_3)[b_4]? = some (Obj.cells { toList := SV.cells (SV.struct [SV.arr IntKind.i64 2 (fset (fset (fun (x : Nat) => 0) 0 (wr IntKind.i64 (wr IntKind.i64 (0 - (↑s.2 : Int)) - 7))) 1 (wr IntKind.i64 (wr IntKind.i64 (0 - (↑s.2 : Int)) - 7))), SV.arr IntKind.i64 2 (fset (fset (fun (x : Nat) => 0) 0 (wr IntKind.i64 (wr IntKind.i64 (0 - (↑s.2 : Int)) - 7))) 1 (wr IntKind.i64 (wr IntKind.i64 (0 - (↑s.2 : Int)) - 7))), SV.arr IntKind.i64 2 (fset (fset (fun (x : Nat) => 0) 0 (wr IntKind.i64 (wr IntKind.i64 (0 - (↑s.2 : Int)) - 7))) 1 (wr IntKind.i64 (wr IntKind.i64 (0 - (↑s.2 : Int)) - 7)))]) }
  29) → Kept bs w1 w1_3 ∧ Vc.Append 29 2 16 l { ptr := some { block := b_3, off := 0 }, len := 1, cap := 1 } [b_1] w1_3 fun (r : Sl) (w : World) => Kept bs
  w1 w ∧ Vc.Append 29 2 16 l { ptr := some { block := b_2, off := 0 }, len := 2, cap := 2 } [b_1] w fun (r_1 : Sl) (w : World) => Kept bs w1 w ∧ Vc.Append
  29 2 16 l { ptr := some { block := b_4, off := 0 }, len := 3, cap := 3 } [b_1] w fun (r_2 : Sl) (w : World) => Kept bs w1 w ∧ tail36 w l r r_1 r_2 bs w1
  s_1 b_1 b s R) ∧ ∀ (b_3 : Nat) (w1_2 : World), Upd [] [b_3] w1_1 w1_2 → (World.heap w1_2)[b_3]? = some (Obj.cells { toList := SV.cells (SV.struct [SV.arr IntKind.i64 2 (fset (fset (fun (x : Nat) => 0) 0 (wr IntKind.i64 (wr IntKind.i64 (0 - (↑s.2 : Int)) - 7))) 1 (wr IntKind.i64 (wr IntKind.i64 (0 - (↑s.2 : Int)) - 7))), SV.arr IntKind.i64 2 (fset (fset (fun (x : Nat) => 0) 0 (wr IntKind.i64 (wr IntKind.i64 (0 - (↑s.2 : Int)) - 7))) 1 (wr IntKind.i64 (wr IntKind.i64 (0 - (↑s.2 : Int)) - 7))), SV.arr IntKind.i64 2 (fset (fset (fun (x : Nat) => 0) 0 (wr IntKind.i64 (wr IntKind.i64 (0 - (↑s.2 : Int)) - 7))) 1 (wr IntKind.i64 (wr IntKind.i64 (0 - (↑s.2 : Int)) - 7)))]) }
  29) → Kept bs w1 w1_2 ∧ ∀ (b_4 : Nat) (w1_3 : World), Upd [] [b_4] w1_2 w1_3 → (World.heap w1_3)[b_4]? = some (Obj.cells { toList := SV.cells (SV.struct [SV.arr IntKind.i64 2 (fset (fset (fun (x : Nat) => 0) 0 (wr IntKind.i64 (wr IntKind.i64 (0 - (↑s.2 : Int)) - 7))) 1 (wr IntKind.i64 (wr IntKind.i64 (0 - (↑s.2 : Int)) - 7)))]) }
  29) → Kept bs w1 w1_3 ∧ Vc.Append 29 2 16 l { ptr := some { block := b_4, off := 0 }, len := 1, cap := 1 } [b_1] w1_3 fun (r : Sl) (w : World) => Kept bs
  w1 w ∧ Vc.Append 29 2 16 l { ptr := some { block := b_2, off := 0 }, len := 2, cap := 2 } [b_1] w fun (r_1 : Sl) (w : World) => Kept bs w1 w ∧ Vc.Append
  29 2 16 l { ptr := some { block := b_3, off := 0 }, len := 3, cap := 3 } [b_1] w fun (r_2 : Sl) (w : World) => Kept bs w1 w ∧ tail36 w l r r_1 r_2 bs w1
  s_1 b_1 b s R) ∧ ∀ (b_2 : Nat) (w1_1 : World), Upd [] [b_2] w1 w1_1 → (World.heap w1_1)[b_2]? = some (Obj.cells { toList := SV.cells (SV.struct [SV.arr IntKind.i64 2 (fset (fset (fun (x : Nat) => 0) 0 (wr IntKind.i64 (wr IntKind.i64 (0 - (↑s.2 : Int)) - 7))) 1 (wr IntKind.i64 (wr IntKind.i64 (0 - (↑s.2 : Int)) - 7))), SV.arr IntKind.i64 2 (fset (fset (fun (x : Nat) => 0) 0 (wr IntKind.i64 (wr IntKind.i64 (0 - (↑s.2 : Int)) - 7))) 1 (wr IntKind.i64 (wr IntKind.i64 (0 - (↑s.2 : Int)) - 7))), SV.arr IntKind.i64 2 (fset (fset (fun (x : Nat) => 0) 0 (wr IntKind.i64 (wr IntKind.i64 (0 - (↑s.2 : Int)) - 7))) 1 (wr IntKind.i64 (wr IntKind.i64 (0 - (↑s.2 : Int)) - 7)))]) }
  29) → Kept bs w1 w1_1 ∧ (∀ (b_3 : Nat) (w1_2 : World), Upd [] [b_3] w1_1 w1_2 → (World.heap w1_2)[b_3]? = some (Obj.cells { toList := SV.cells (SV.struct [SV.arr IntKind.i64 2 (fset (fset (fun (x : Nat) => 0) 0 (wr IntKind.i64 (wr IntKind.i64 (0 - (↑s.2 : Int)) - 7))) 1 (wr IntKind.i64 (wr IntKind.i64 (0 - (↑s.2 : Int)) - 7)))]) }
  29) → Kept bs w1 w1_2 ∧ (Vc.Append 29 2 16 l { ptr := some { block := b_3, off := 0 }, len := 1, cap := 1 } [b_1] w1_2 fun (r : Sl) (w : World) => Kept
  bs w1 w ∧ ∀ (b_4 : Nat) (w1_3 : World), Upd [] [b_4] w w1_3 → (World.heap w1_3)[b_4]? = some (Obj.cells { toList := SV.cells (SV.struct [SV.arr IntKind.i64 2 (fset (fset (fun (x : Nat) => 0) 0 (wr IntKind.i64 (wr IntKind.i64 (0 - (↑s.2 : Int)) - 7))) 1 (wr IntKind.i64 (wr IntKind.i64 (0 - (↑s.2 : Int)) - 7))), SV.arr IntKind.i64 2 (fset (fset (fun (x : Nat) => 0) 0 (wr IntKind.i64 (wr IntKind.i64 (0 - (↑s.2 : Int)) - 7))) 1 (wr IntKind.i64 (wr IntKind.i64 (0 - (↑s.2 : Int)) - 7)))]) }
  29) → Kept bs w1 w1_3 ∧ Vc.Append 29 2 16 l { ptr := some { block := b_4, off := 0 }, len := 2, cap := 2 } [b_1] w1_3 fun (r_1 : Sl) (w : World) => Kept
  bs w1 w ∧ Vc.Append 29 2 16 l { ptr := some { block := b_2, off := 0 }, len := 3, cap := 3 } [b_1] w fun (r_2 : Sl) (w : World) => Kept bs w1 w ∧ tail36
  w l r r_1 r_2 bs w1 s_1 b_1 b s R) ∧ ∀ (b_4 : Nat) (w1_3 : World), Upd [] [b_4] w1_2 w1_3 → (World.heap w1_3)[b_4]? = some (Obj.cells { toList := SV.cells (SV.struct [SV.arr IntKind.i64 2 (fset (fset (fun (x : Nat) => 0) 0 (wr IntKind.i64 (wr IntKind.i64 (0 - (↑s.2 : Int)) - 7))) 1 (wr IntKind.i64 (wr IntKind.i64 (0 - (↑s.2 : Int)) - 7))), SV.arr IntKind.i64 2 (fset (fset (fun (x : Nat) => 0) 0 (wr IntKind.i64 (wr IntKind.i64 (0 - (↑s.2 : Int)) - 7))) 1 (wr IntKind.i64 (wr IntKind.i64 (0 - (↑s.2 : Int)) - 7)))]) }
  29) → Kept bs w1 w1_3 ∧ Vc.Append 29 2 16 l { ptr := some { block := b_3, off := 0 }, len := 1, cap := 1 } [b_1] w1_3 fun (r : Sl) (w : World) => Kept bs
  w1 w ∧ Vc.Append 29 2 16 l { ptr := some { block := b_4, off := 0 }, len := 2, cap := 2 } [b_1] w fun (r_1 : Sl) (w : World) => Kept bs w1 w ∧ Vc.Append
  29 2 16 l { ptr := some { block := b_2, off := 0 }, len := 3, cap := 3 } [b_1] w fun (r_2 : Sl) (w : World) => Kept bs w1 w ∧ tail36 w l r r_1 r_2 bs w1
  s_1 b_1 b s R) ∧ ∀ (b_3 : Nat) (w1_2 : World), Upd [] [b_3] w1_1 w1_2 → (World.heap w1_2)[b_3]? = some (Obj.cells { toList := SV.cells (SV.struct [SV.arr IntKind.i64 2 (fset (fset (fun (x : Nat) => 0) 0 (wr IntKind.i64 (wr IntKind.i64 (0 - (↑s.2 : Int)) - 7))) 1 (wr IntKind.i64 (wr IntKind.i64 (0 - (↑s.2 : Int)) - 7))), SV.arr IntKind.i64 2 (fset (fset (fun (x : Nat) => 0) 0 (wr IntKind.i64 (wr IntKind.i64 (0 - (↑s.2 : Int)) - 7))) 1 (wr IntKind.i64 (wr IntKind.i64 (0 - (↑s.2 : Int)) - 7)))]) }
  29) → Kept bs w1 w1_2 ∧ ∀ (b_4 : Nat) (w1_3 : World), Upd [] [b_4] w1_2 w1_3 → (World.heap w1_3)[b_4]? = some (Obj.cells { toList := SV.cells (SV.struct [SV.arr IntKind.i64 2 (fset (fset (fun (x : Nat) => 0) 0 (wr IntKind.i64 (wr IntKind.i64 (0 - (↑s.2 : Int)) - 7))) 1 (wr IntKind.i64 (wr IntKind.i64 (0 - (↑s.2 : Int)) - 7)))]) }
  29) → Kept bs w1 w1_3 ∧ Vc.Append 29 2 16 l { ptr := some { block := b_4, off := 0 }, len := 1, cap := 1 } [b_1] w1_3 fun (r : Sl) (w : World) => Kept bs
  w1 w ∧ Vc.Append 29 2 16 l { ptr := some { block := b_3, off := 0 }, len := 2, cap := 2 } [b_1] w fun (r_1 : Sl) (w : World) => Kept bs w1 w ∧ Vc.Append
  29 2 16 l { ptr := some { block := b_2, off := 0 }, len := 3, cap := 3 } [b_1] w fun (r_2 : Sl) (w : World) => Kept bs w1 w ∧ tail36 w l r r_1 r_2 bs w1
  s_1 b_1 b s R)
theorem f36_of (b : Option Addr) (l : Sl) (w : World) (R : SV → World → Prop) (hV : vc36 b l w R) : Ret Try.prog 36 [.ptr b, .slice l] w R :=
  have e : vc36 b l w R = fnVC X Try.f36 a1036 [.ptr b, .slice l] w R := by kernel_rfl
  fnVC_sound X_ok (n := a1036) (e ▸ hV) (by kernel_rfl) (by kernel_rfl) rfl rfl

def vc23 (b : Option Addr) (w : World) (R : SV → World → Prop) : Prop :=
  ∃ (I : Int → World → Prop),
    ∃ (M : Int → World → Nat),
      I 0 w ∧
        ∀ (n : Int) (w1 : World),
          I n w1 →
            deref b fun (a : Addr) =>
              ∃ (s : Sl),
                World.cell? w1 a = some (Sl.val s) ∧
                  Br (decide (n < (↑s.2 : Int)))
                    (∃ (I_1 : Int → World → Prop),
                      ∃ (M_1 : Int → World → Nat),
                        I_1 0 w1 ∧
                          ∀ (n_1 : Int) (w1_1 : World),
                            I_1 n_1 w1_1 →
                              deref b fun (a : Addr) =>
                                ∃ (s : Sl),
                                  World.cell? w1_1 a = some (Sl.val s) ∧
                                    Need (decide (0 ≤ n) && decide (n < (↑s.2 : Int)) && Option.isSome s.1)
                                      (∃ (s_1 : Sl),
                                        World.cell? w1_1 (Sl.at s 1 (Int.toNat n)) = some (Sl.val s_1) ∧
                                          Br (decide (n_1 < (↑s_1.2 : Int)))
                                            (deref b fun (a : Addr) =>
                                              ∃ (s : Sl),
                                                World.cell? w1_1 a = some (Sl.val s) ∧
                                                  Need (decide (0 ≤ n) && decide (n < (↑s.2 : Int)) && Option.isSome s.1)
                                                    (∃ (s_2 : Sl),
                                                      World.cell? w1_1 (Sl.at s 1 (Int.toNat n)) = some (Sl.val s_2) ∧
                                                        Need (decide (0 ≤ n_1) && decide (n_1 < (↑s_2.2 : Int)) && Option.isSome s_2.1)
                                                          (∃ (n_2 : Int),
                                                            World.cell? w1_1 (Sl.at s_2 1 (Int.toNat n_1)) = some (Value.int IntKind.u8 n_2) ∧
                                                              deref b fun (a : Addr) =>
                                                                ∃ (s : Sl),
                                                                  World.cell? w1_1 (Addr.add a 2) = some (Sl.val s) ∧
                                                                    Need (decide (0 ≤ n) && decide (n < (↑s.2 : Int)) && Option.isSome s.1)
                                                                      (∃ (n_3 : Int),
                                                                        World.cell? w1_1 (Sl.at s 1 (Int.toNat n)) = some (Value.int IntKind.u8 n_3) ∧
                                                                          Br (n_2 != n_3) (∀ (w1 : World), Upd [] [] w1_1 w1 → R (SV.bool false) w1)
                                                                            (∀ (w1 : World),
                                                                              Upd [] [] w1_1 w1 →
                                                                                I_1 (wr IntKind.i64 (n_1 + 1)) w1 ∧ M_1 (wr IntKind.i64 (n_1 + 1)) w1 < M_1 n_1 w1_1)))))
                                            (I (wr IntKind.i64 (n + 1)) w1_1 ∧ M (wr IntKind.i64 (n + 1)) w1_1 < M n w1)))
                    (∃ (I : Int → World → Prop),
                      ∃ (M : Int → World → Nat),
                        I 0 w1 ∧
                          ∀ (n : Int) (w1 : World),
                            I n w1 →
                              deref b fun (a : Addr) =>
                                ∃ (s : Sl),
                                  World.cell? w1 (Addr.add a 1) = some (Sl.val s) ∧
                                    Br (decide (n < (↑s.2 : Int)))
                                      (∃ (I_1 : Int → World → Prop),
                                        ∃ (M_1 : Int → World → Nat),
                                          I_1 0 w1 ∧
                                            ∀ (n_1 : Int) (w1_1 : World),
                                              I_1 n_1 w1_1 →
                                                deref b fun (a : Addr) =>
                                                  ∃ (s : Sl),
                                                    World.cell? w1_1 (Addr.add a 1) = some (Sl.val s) ∧
                                                      Need (decide (0 ≤ n) && decide (n < (↑s.2 : Int)) && Option.isSome s.1)
                                                        (∃ (s_1 : Sl),
                                                          World.cell? w1_1 (Sl.at s 1 (Int.toNat n)) = some (Sl.val s_1) ∧
                                                            Br (decide (n_1 < (↑s_1.2 : Int)))
                                                              (deref b fun (a : Addr) =>
                                                                ∃ (s : Sl),
                                                                  World.cell? w1_1 (Addr.add a 1) = some (Sl.val s) ∧
                                                                    Need (decide (0 ≤ n) && decide (n < (↑s.2 : Int)) && Option.isSome s.1)
                                                                      (∃ (s_2 : Sl),
                                                                        World.cell? w1_1 (Sl.at s 1 (Int.toNat n)) = some (Sl.val s_2) ∧
                                                                          Need (decide (0 ≤ n_1) && decide (n_1 < (↑s_2.2 : Int)) && Option.isSome s_2.1)
                                                                            (∃ (f : Nat → Int),
                                                                              (∀ (i : Nat),
                                                                                  i < 2 →
                                                                                    World.cell? w1_1 (Addr.add (Sl.at s_2 2 (Int.toNat n_1)) (0 + i)) =
                                                                                      some (Value.int IntKind.i64 (f i))) ∧
                                                                                deref b fun (a : Addr) =>
                                                                                  ∃ (s : Sl),
                                                                                    World.cell? w1_1 (Addr.add a 3) = some (Sl.val s) ∧
                                                                                      Need (decide (0 ≤ n) && decide (n < (↑s.2 : Int)) && Option.isSome s.1)
                                                                                        (∃ (n_2 : Int),
                                                                                          World.cell? w1_1 (Sl.at s 1 (Int.toNat n)) = some (Value.int IntKind.i64 n_2) ∧
                                                                                            deref b fun (a : Addr) =>
                                                                                              ∃ (s : Sl),
                                                                                                World.cell? w1_1 (Addr.add a 3) = some (Sl.val s) ∧
                                                                                                  Need (decide (0 ≤ n) && decide (n < (↑s.2 : Int)) && Option.isSome s.1)
                                                                                                    (∃ (n_3 : Int),
                                                                                                      World.cell? w1_1 (Sl.at s 1 (Int.toNat n)) = some (Value.int IntKind.i64 n_3) ∧
                                                                                                        Br (!eqArr 2 f (fset (fset (fun (x : Nat) => 0) 0 n_2) 1 n_3))
                                                                                                          (∀ (w1 : World), Upd [] [] w1_1 w1 → R (SV.bool false) w1)
                                                                                                          (∀ (w1 : World),
                                                                                                            Upd [] [] w1_1 w1 →
                                                                                                              I_1 (wr IntKind.i64 (n_1 + 1)) w1 ∧
                                                                                                                M_1 (wr IntKind.i64 (n_1 + 1)) w1 < M_1 n_1 w1_1))))))
                                                              (I (wr IntKind.i64 (n + 1)) w1_1 ∧ M (wr IntKind.i64 (n + 1)) w1_1 < M n w1)))
                                      (R (SV.bool true) w1))
theorem f23_of (b : Option Addr) (w : World) (R : SV → World → Prop) (hV : vc23 b w R) : Ret Try.prog 23 [.ptr b] w R :=
  have e : vc23 b w R = fnVC X Try.f23 a23 [.ptr b] w R := by kernel_rfl
  fnVC_sound X_ok (n := a23) (e ▸ hV) (by kernel_rfl) (by kernel_rfl) rfl rfl

end Go.Vc.S11
