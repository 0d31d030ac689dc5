import Derived.Test.YtkkdnnpnbmpifaaG3
import Derived.KernelRfl
open Go Go.Vc Go.Vc.S11 Go.Proofs
set_option maxRecDepth 100000
set_option linter.unusedVariables false
namespace Go.Vc.S11
def tail8 (p0 : World) (p1 : Sl) (p2 : Nat) (p3 : Nat) (p4 : Option Addr) (p5 : Option Addr) (p6 : Option Addr) (p7 : Option Addr) (p8 : SV → World → Prop)
  : Prop := ∃ (z0 : Int → World → Prop), ∃ (z1 : Int → World → Nat), z0 0 p0 ∧ ∀ (z2 : Int) (z3 : World), z0 z2 z3 → Br (decide (z2 < 2)) (∃ (z4 : Int → World
  → Prop), ∃ (z5 : Int → World → Nat), z4 0 z3 ∧ ∀ (z6 : Int) (z7 : World), z4 z6 z7 → Need (decide (0 ≤ z2) && decide (z2 < (↑p1.2 : Int)) && Option.isSome
  p1.1) (∃ (z8 : Sl), World.cell? z7 (Sl.at p1 1 (Int.toNat z2)) = some (Sl.val z8) ∧ Br (decide (z6 < (↑z8.2 : Int))) (Need (decide (0 ≤ z2) && decide (z2
  < (↑p1.2 : Int)) && Option.isSome p1.1) (∃ (z9 : Sl), World.cell? z7 (Sl.at p1 1 (Int.toNat z2)) = some (Sl.val z9) ∧ Need (decide (0 ≤ z6) && decide (z6
  < (↑z9.2 : Int)) && Option.isSome z9.1) (Store z7 (Sl.at z9 2 (Int.toNat z6)) (SV.cells (SV.arr IntKind.i64 2 (fset (fset (fun (z10 : Nat) => 0) 0 (wr IntKind.i64
  (-1 - z2))) 1 (wr IntKind.i64 (-1 - z2))))) [p2, p3] fun (z11 : World) => some (SV.box p2 53 (SV.struct [SV.ptr p4, SV.ptr p5])) = some (SV.box p2 53 (SV.struct
  [SV.ptr p4, SV.ptr p5])) ∧ some (SV.box p3 53 (SV.struct [SV.ptr p6, SV.ptr p7])) = some (SV.box p3 53 (SV.struct [SV.ptr p6, SV.ptr p7])) ∧ z4 (wr IntKind.i64
  (z6 + 1)) z11 ∧ z5 (wr IntKind.i64 (z6 + 1)) z11 < z5 z6 z7))) (some (SV.box p2 53 (SV.struct [SV.ptr p4, SV.ptr p5])) = some (SV.box p2 53 (SV.struct [SV.ptr
  p4, SV.ptr p5])) ∧ some (SV.box p3 53 (SV.struct [SV.ptr p6, SV.ptr p7])) = some (SV.box p3 53 (SV.struct [SV.ptr p6, SV.ptr p7])) ∧ z0 (wr IntKind.i64
  (z2 + 1)) z7 ∧ z1 (wr IntKind.i64 (z2 + 1)) z7 < z1 z2 z3))) (∃ (z12 : Sl → Int → World → Prop), ∃ (z13 : Sl → Int → World → Nat), z12 { ptr := none, len := 0, cap := 0 }
  0 z3 ∧ ∀ (z14 : Sl) (z15 : Int) (z16 : World), z12 z14 z15 z16 → Br (decide (z15 < 2)) (Need (decide (0 ≤ z15) && decide (z15 < (↑p1.2 : Int)) && Option.isSome
  p1.1) (∃ (z17 : Sl), World.cell? z16 (Sl.at p1 1 (Int.toNat z15)) = some (Sl.val z17) ∧ ∃ (z18 : Sl → Int → World → Prop), ∃ (z19 : Sl → Int → World → Nat),
  z18 z17 0 z16 ∧ ∀ (z20 : Sl) (z21 : Int) (z22 : World), z18 z20 z21 z22 → Need (decide (0 < (↑p1.2 : Int)) && Option.isSome p1.1) (∃ (z23 : Sl), World.cell?
  z22 (Sl.at p1 1 0) = some (Sl.val z23) ∧ Br (decide (z21 < wr IntKind.i64 ((↑z23.2 : Int) + 70))) (∀ (z24 : Nat) (z25 : World), Upd [] [z24] z22 z25 → (World.heap
  z25)[z24]? = some (Obj.cells { toList := SV.cells (SV.struct [SV.arr IntKind.i64 2 (fset (fset (fun (z26 : Nat) => 0) 0 (wr IntKind.i64 (-1 - z15))) 1 (wr IntKind.i64 (-1 - z15)))]) }
  29) → Vc.Append 29 2 16 z20 { ptr := some { block := z24, off := 0 }, len := 1, cap := 1 } [p2, p3] z25 fun (z27 : Sl) (z28 : World) => some (SV.box p2
  53 (SV.struct [SV.ptr p4, SV.ptr p5])) = some (SV.box p2 53 (SV.struct [SV.ptr p4, SV.ptr p5])) ∧ some (SV.box p3 53 (SV.struct [SV.ptr p6, SV.ptr p7]))
  = some (SV.box p3 53 (SV.struct [SV.ptr p6, SV.ptr p7])) ∧ z18 z27 (wr IntKind.i64 (z21 + 1)) z28 ∧ z19 z27 (wr IntKind.i64 (z21 + 1)) z28 < z19 z20 z21
  z22) (∀ (z29 : Nat) (z30 : World), Upd [] [z29] z22 z30 → (World.heap z30)[z29]? = some (Obj.cells { toList := SV.cells (SV.struct [SV.slice z20]) } 27)
  → Vc.Append 27 1 24 z14 { ptr := some { block := z29, off := 0 }, len := 1, cap := 1 } [p2, p3] z30 fun (z31 : Sl) (z32 : World) => some (SV.box p2 53 (SV.struct
  [SV.ptr p4, SV.ptr p5])) = some (SV.box p2 53 (SV.struct [SV.ptr p4, SV.ptr p5])) ∧ some (SV.box p3 53 (SV.struct [SV.ptr p6, SV.ptr p7])) = some (SV.box
  p3 53 (SV.struct [SV.ptr p6, SV.ptr p7])) ∧ z12 z31 (wr IntKind.i64 (z15 + 1)) z32 ∧ z13 z31 (wr IntKind.i64 (z15 + 1)) z32 < z13 z14 z15 z16)))) (∃ (z33
  : Int → World → Prop), ∃ (z34 : Int → World → Nat), z33 0 z16 ∧ ∀ (z35 : Int) (z36 : World), z33 z35 z36 → Br (decide (z35 < 2)) (∃ (z37 : Int → World →
  Prop), ∃ (z38 : Int → World → Nat), z37 0 z36 ∧ ∀ (z39 : Int) (z40 : World), z37 z39 z40 → Need (decide (0 ≤ z35) && decide (z35 < (↑z14.2 : Int)) && Option.isSome
  z14.1) (∃ (z41 : Sl), World.cell? z40 (Sl.at z14 1 (Int.toNat z35)) = some (Sl.val z41) ∧ Br (decide (z39 < (↑z41.2 : Int))) (∀ (z42 : World → Prop), (∀
  (z43 : World), some (SV.box p2 53 (SV.struct [SV.ptr p4, SV.ptr p5])) = some (SV.box p2 53 (SV.struct [SV.ptr p4, SV.ptr p5])) ∧ some (SV.box p3 53 (SV.struct
  [SV.ptr p6, SV.ptr p7])) = some (SV.box p3 53 (SV.struct [SV.ptr p6, SV.ptr p7])) ∧ z37 (wr IntKind.i64 (z39 + 1)) z43 ∧ z38 (wr IntKind.i64 (z39 + 1))
  z43 < z38 z39 z40 → z42 z43) → Need (decide (0 ≤ z35) && decide (z35 < (↑z14.2 : Int)) && Option.isSome z14.1) (∃ (z44 : Sl), World.cell? z40 (Sl.at z14
  1 (Int.toNat z35)) = some (Sl.val z44) ∧ Need (decide (0 ≤ z39) && decide (z39 < (↑z44.2 : Int)) && Option.isSome z44.1) (∃ (z45 : Nat → Int), (∀ (z46 :
  Nat), z46 < 2 → World.cell? z40 (Addr.add (Sl.at z44 2 (Int.toNat z39)) (0 + z46)) = some (Value.int IntKind.i64 (z45 z46))) ∧ Br (!eqArr 2 z45 (fset (fset
  (fun (z47 : Nat) => 0) 0 (wr IntKind.i64 (-1 - z35))) 1 (wr IntKind.i64 (-1 - z35)))) (p8 (SV.bool false) z40) (Need (decide (0 ≤ z35) && decide (z35 <
  (↑p1.2 : Int)) && Option.isSome p1.1) (∃ (z48 : Sl), World.cell? z40 (Sl.at p1 1 (Int.toNat z35)) = some (Sl.val z48) ∧ Br (decide (z39 < (↑z48.2 : Int)))
  (Need (decide (0 ≤ z35) && decide (z35 < (↑p1.2 : Int)) && Option.isSome p1.1) (∃ (z49 : Sl), World.cell? z40 (Sl.at p1 1 (Int.toNat z35)) = some (Sl.val
  z49) ∧ Need (decide (0 ≤ z39) && decide (z39 < (↑z49.2 : Int)) && Option.isSome z49.1) (∃ (z50 : Nat → Int), (∀ (z51 : Nat), z51 < 2 → World.cell? z40 (Addr.add
  (Sl.at z49 2 (Int.toNat z39)) (0 + z51)) = some (Value.int IntKind.i64 (z50 z51))) ∧ Br (!eqArr 2 z50 (fset (fset (fun (z52 : Nat) => 0) 0 (wr IntKind.i64
  (-1 - z35))) 1 (wr IntKind.i64 (-1 - z35)))) (p8 (SV.bool false) z40) (some (SV.box p2 53 (SV.struct [SV.ptr p4, SV.ptr p5])) = some (SV.box p2 53 (SV.struct
  [SV.ptr p4, SV.ptr p5])) ∧ some (SV.box p3 53 (SV.struct [SV.ptr p6, SV.ptr p7])) = some (SV.box p3 53 (SV.struct [SV.ptr p6, SV.ptr p7])) ∧ z42 z40))))
  (some (SV.box p2 53 (SV.struct [SV.ptr p4, SV.ptr p5])) = some (SV.box p2 53 (SV.struct [SV.ptr p4, SV.ptr p5])) ∧ some (SV.box p3 53 (SV.struct [SV.ptr
  p6, SV.ptr p7])) = some (SV.box p3 53 (SV.struct [SV.ptr p6, SV.ptr p7])) ∧ z42 z40)))))) (some (SV.box p2 53 (SV.struct [SV.ptr p4, SV.ptr p5])) = some
  (SV.box p2 53 (SV.struct [SV.ptr p4, SV.ptr p5])) ∧ some (SV.box p3 53 (SV.struct [SV.ptr p6, SV.ptr p7])) = some (SV.box p3 53 (SV.struct [SV.ptr p6, SV.ptr
  p7])) ∧ z33 (wr IntKind.i64 (z35 + 1)) z40 ∧ z34 (wr IntKind.i64 (z35 + 1)) z40 < z34 z35 z36))) (∀ (z53 : Nat) (z54 : World), Upd [] [z53] z36 z54 → (World.heap
  z54)[z53]? = some (Obj.cells { toList := SV.cells (SV.struct [SV.slice { ptr := none, len := 0, cap := 0 }, SV.slice { ptr := none, len := 0, cap := 0 }, SV.slice { ptr := none, len := 0, cap := 0 }, SV.slice { ptr := none, len := 0, cap := 0 }]) }
  62) → Off z53 [p2, p3] → Ret Try.prog 22 [SV.struct [SV.ptr p4, SV.ptr p5], SV.int IntKind.i64 4, SV.ptr (some { block := z53, off := 0 })] z54 fun (z55
  : SV) (z56 : World) => ∃ (z57 : Bool), z55 = SV.bool z57 ∧ Keeps [p2, p3] z54 z56 ∧ Br z57 (Ret Try.prog 22 [SV.struct [SV.ptr p4, SV.ptr p5], SV.int IntKind.i64
  2, SV.ptr (some { block := z53, off := 0 })] z56 fun (z58 : SV) (z59 : World) => ∃ (z60 : Bool), z58 = SV.bool z60 ∧ Keeps [p2, p3] z56 z59 ∧ Br z60 (Ret
  Try.prog 22 [SV.struct [SV.ptr p4, SV.ptr p5], SV.int IntKind.i64 3, SV.ptr (some { block := z53, off := 0 })] z59 fun (z61 : SV) (z62 : World) => ∃ (z63
  : Bool), z61 = SV.bool z63 ∧ Keeps [p2, p3] z59 z62 ∧ Br z63 (Ret Try.prog 22 [SV.struct [SV.ptr p6, SV.ptr p7], SV.int IntKind.i64 4, SV.ptr (some { block := z53, off := 0 })]
  z62 fun (z64 : SV) (z65 : World) => ∃ (z66 : Bool), z64 = SV.bool z66 ∧ Keeps [p2, p3] z62 z65 ∧ p8 (SV.bool z66) z65) (p8 (SV.bool false) z62)) (p8 (SV.bool
  false) z59)) (p8 (SV.bool false) z56))))
def vc8 (max : Int) (pieces : Sl) (w : World) (R : SV → World → Prop) : Prop := ∀ (J : Int → World → Prop), (∀ (n : Int) (w1 : World), (Ret Try.prog 20
  [SV.int IntKind.i64 n, SV.struct [SV.ptr none, SV.ptr none]] w1 fun (r : SV) (w1 : World) => ∃ (p : Option Addr), ∃ (p_1 : Option Addr), ∃ (b : Bool), r
  = SV.tuple [SV.struct [SV.ptr p, SV.ptr p_1], SV.bool b] ∧ ∀ (b_1 : Nat) (w1_1 : World), Upd [] [b_1] w1 w1_1 → Ret Try.prog 20 [SV.int IntKind.i64 8, SV.struct
  [SV.ptr none, SV.ptr none]] w1_1 fun (r : SV) (w1 : World) => ∃ (p_2 : Option Addr), ∃ (p_3 : Option Addr), ∃ (b_2 : Bool), r = SV.tuple [SV.struct [SV.ptr
  p_2, SV.ptr p_3], SV.bool b_2] ∧ Keeps [b_1] w1_1 w1 ∧ ∀ (b_3 : Nat) (J : World → Prop), (∀ (w1 : World), (∀ (J : World → Prop), (∀ (w1 : World), (∃ (I
  : Sl → Sl → Int → World → Prop), ∃ (M : Sl → Sl → Int → World → Nat), I { ptr := none, len := 0, cap := 0 } { ptr := none, len := 0, cap := 0 } 0 w1 ∧ ∀
  (s s_1 : Sl) (n : Int) (w1 : World), I s s_1 n w1 → Br (decide (n < 2)) (∀ (J : Sl → Sl → World → Prop), (∀ (s_2 s_3 : Sl) (w1_2 : World), some (SV.box
  b_1 53 (SV.struct [SV.ptr p, SV.ptr p_1])) = some (SV.box b_1 53 (SV.struct [SV.ptr p, SV.ptr p_1])) ∧ some (SV.box b_3 53 (SV.struct [SV.ptr p_2, SV.ptr
  p_3])) = some (SV.box b_3 53 (SV.struct [SV.ptr p_2, SV.ptr p_3])) ∧ I s_2 s_3 (wr IntKind.i64 (n + 1)) w1_2 ∧ M s_2 s_3 (wr IntKind.i64 (n + 1)) w1_2 <
  M s s_1 n w1 → J s_2 s_3 w1_2) → Ret Try.prog 18 [SV.ptr p] w1 fun (r : SV) (w1_2 : World) => ∃ (s_2 : Sl), ∃ (b : Bool), r = SV.tuple [SV.slice s_2, SV.bool
  b] ∧ Keeps [b_1, b_3] w1 w1_2 ∧ Ret Try.prog 18 [SV.ptr p] w1_2 fun (r : SV) (w1 : World) => ∃ (s_3 : Sl), ∃ (b_4 : Bool), r = SV.tuple [SV.slice s_3, SV.bool
  b_4] ∧ Keeps [b_1, b_3] w1_2 w1 ∧ Ret Try.prog 28 [SV.ptr p_1] w1 fun (r : SV) (w1_3 : World) => ∃ (s_4 : Sl), ∃ (b_5 : Bool), r = SV.tuple [SV.slice s_4,
  SV.bool b_5] ∧ Keeps [b_1, b_3] w1 w1_3 ∧ Ret Try.prog 18 [SV.ptr p_2] w1_3 fun (r : SV) (w1 : World) => ∃ (s_5 : Sl), ∃ (b_6 : Bool), r = SV.tuple [SV.slice
  s_5, SV.bool b_6] ∧ Keeps [b_1, b_3] w1_3 w1 ∧ Ret Try.prog 11 [SV.ptr p] w1 fun (r : SV) (w1_4 : World) => ∃ (s_6 : Sl), r = SV.slice s_6 ∧ Keeps [b_1,
  b_3] w1 w1_4 ∧ ∀ (J_1 : World → Prop), (∀ (w1 : World), (∀ (b : Nat) (w1_5 : World), Upd [] [b] w1 w1_5 → (World.heap w1_5)[b]? = some (Obj.cells { toList := SV.cells (SV.struct [SV.slice s_2, SV.slice s_3, SV.slice s_5]) }
  34) → Vc.Append 34 1 24 s { ptr := some { block := b, off := 0 }, len := 3, cap := 3 } [b_1, b_3] w1_5 fun (r : Sl) (w : World) => ∀ (b : Nat) (w1 : World),
  Upd [] [b] w w1 → (World.heap w1)[b]? = some (Obj.cells { toList := SV.cells (SV.struct [SV.slice s_6]) } 27) → Vc.Append 27 1 24 s_1 { ptr := some { block := b, off := 0 }, len := 1, cap := 1 }
  [b_1, b_3] w1 fun (r_1 : Sl) (w : World) => some (SV.box b_1 53 (SV.struct [SV.ptr p, SV.ptr p_1])) = some (SV.box b_1 53 (SV.struct [SV.ptr p, SV.ptr p_1]))
  ∧ some (SV.box b_3 53 (SV.struct [SV.ptr p_2, SV.ptr p_3])) = some (SV.box b_3 53 (SV.struct [SV.ptr p_2, SV.ptr p_3])) ∧ J r r_1 w) → J_1 w1) → Br (!b
  == b_5) (R (SV.bool false) w1_4) (Ret Try.prog 19 [SV.slice s_2, SV.slice s_4] w1_4 fun (r : SV) (w1 : World) => ∃ (b : Bool), r = SV.bool b ∧ Keeps [b_1,
  b_3] w1_4 w1 ∧ Br (!b) (R (SV.bool false) w1) (Ret Try.prog 19 [SV.slice s_3, SV.slice s_4] w1 fun (r : SV) (w1_5 : World) => ∃ (b : Bool), r = SV.bool
  b ∧ Keeps [b_1, b_3] w1 w1_5 ∧ Br (!b) (R (SV.bool false) w1_5) (Br (!b_6) (R (SV.bool false) w1_5) (BytesStr w1_5 s_5 fun (b : ByteArray) => Br (!b ==
  { data := { toList := [97, 98, 99] } }) (R (SV.bool false) w1_5) (Ret Try.prog 29 [SV.ptr p_1] w1_5 fun (r : SV) (w1 : World) => ∃ (s : Sl), r = SV.slice
  s ∧ Keeps [b_1, b_3] w1_5 w1 ∧ Ret Try.prog 24 [SV.slice s_6, SV.slice s] w1 fun (r : SV) (w1_6 : World) => ∃ (b : Bool), r = SV.bool b ∧ Keeps [b_1, b_3]
  w1 w1_6 ∧ Br (!b) (R (SV.bool false) w1_6) (some (SV.box b_1 53 (SV.struct [SV.ptr p, SV.ptr p_1])) = some (SV.box b_1 53 (SV.struct [SV.ptr p, SV.ptr p_1]))
  ∧ some (SV.box b_3 53 (SV.struct [SV.ptr p_2, SV.ptr p_3])) = some (SV.box b_3 53 (SV.struct [SV.ptr p_2, SV.ptr p_3])) ∧ J_1 w1_6))))))) (Ret Try.prog
  30 [SV.slice s] w1 fun (r : SV) (w1_2 : World) => ∃ (b : Bool), r = SV.bool b ∧ Keeps [b_1, b_3] w1 w1_2 ∧ Br (!b) (R (SV.bool false) w1_2) (tail8 w1_2
  s_1 b_1 b_3 p p_1 p_2 p_3 R))) → J w1) → ∃ (I : Int → World → Prop), ∃ (M : Int → World → Nat), I 0 w1 ∧ ∀ (n : Int) (w1 : World), I n w1 → ∀ (J_1 : World
  → Prop), (∀ (w1_2 : World), Need (decide (0 ≤ n) && decide (n < (↑pieces.2 : Int)) && Option.isSome pieces.1) (∃ (n_1 : Int), World.cell? w1_2 (Sl.at pieces
  3 (Int.toNat n)) = some (Value.int IntKind.i64 n_1) ∧ Need (decide (0 ≤ n) && decide (n < (↑pieces.2 : Int)) && Option.isSome pieces.1) (∃ (s : Sl), World.cell?
  w1_2 (Addr.add (Sl.at pieces 3 (Int.toNat n)) 1) = some (Sl.val s) ∧ Need (decide (0 ≤ n) && decide (n < (↑pieces.2 : Int)) && Option.isSome pieces.1) (∃
  (b : Bool), World.cell? w1_2 (Addr.add (Sl.at pieces 3 (Int.toNat n)) 2) = some (Value.bool b) ∧ ∀ (w1_3 : World), Upd [] [] w1_2 w1_3 → Ret Try.prog 13
  [SV.slice s] w1_3 fun (r : SV) (w1_4 : World) => ∃ (s : Sl), r = SV.slice s ∧ Keeps [b_1, b_3] w1_3 w1_4 ∧ Upd [] [] w1_2 w1_4 ∧ Ret Try.prog 21 [SV.struct
  [SV.ptr p, SV.ptr p_1], SV.int IntKind.i64 n_1, SV.slice s, SV.bool b] w1_4 fun (r : SV) (w1_5 : World) => ∃ (b : Bool), r = SV.bool b ∧ Keeps [b_1, b_3]
  w1_4 w1_5 ∧ Br (!b) (R (SV.bool false) w1_5) (some (SV.box b_1 53 (SV.struct [SV.ptr p, SV.ptr p_1])) = some (SV.box b_1 53 (SV.struct [SV.ptr p, SV.ptr
  p_1])) ∧ some (SV.box b_3 53 (SV.struct [SV.ptr p_2, SV.ptr p_3])) = some (SV.box b_3 53 (SV.struct [SV.ptr p_2, SV.ptr p_3])) ∧ I (wr IntKind.i64 (n +
  1)) w1_5 ∧ M (wr IntKind.i64 (n + 1)) w1_5 < M n w1)))) → J_1 w1_2) → Br (decide (n < (↑pieces.2 : Int))) (Br (decide (n < 120)) (some (SV.box b_1 53 (SV.struct
  [SV.ptr p, SV.ptr p_1])) = some (SV.box b_1 53 (SV.struct [SV.ptr p, SV.ptr p_1])) ∧ some (SV.box b_3 53 (SV.struct [SV.ptr p_2, SV.ptr p_3])) = some (SV.box
  b_3 53 (SV.struct [SV.ptr p_2, SV.ptr p_3])) ∧ J_1 w1) (some (SV.box b_1 53 (SV.struct [SV.ptr p, SV.ptr p_1])) = some (SV.box b_1 53 (SV.struct [SV.ptr
  p, SV.ptr p_1])) ∧ some (SV.box b_3 53 (SV.struct [SV.ptr p_2, SV.ptr p_3])) = some (SV.box b_3 53 (SV.struct [SV.ptr p_2, SV.ptr p_3])) ∧ J w1)) (some
  (SV.box b_1 53 (SV.struct [SV.ptr p, SV.ptr p_1])) = some (SV.box b_1 53 (SV.struct [SV.ptr p, SV.ptr p_1])) ∧ some (SV.box b_3 53 (SV.struct [SV.ptr p_2,
  SV.ptr p_3])) = some (SV.box b_3 53 (SV.struct [SV.ptr p_2, SV.ptr p_3])) ∧ J w1)) → J w1) → Br (!b) (∀ (w1_2 : World), Upd [] [b_3] w1 w1_2 → R (SV.bool
  false) w1_2) (Br (!b_2) (∀ (w1_2 : World), Upd [] [b_3] w1 w1_2 → R (SV.bool false) w1_2) (Br (Option.isNone p) (∀ (w1_2 : World), Upd [] [b_3] w1 w1_2
  → R (SV.bool false) w1_2) (Br (Option.isNone p_2) (∀ (w1_2 : World), Upd [] [b_3] w1 w1_2 → R (SV.bool false) w1_2) (∀ (w1_2 : World), Upd [] [b_3] w1 w1_2
  → ∀ (b : Nat) (w1 : World), Upd [] [b] w1_2 w1 → (World.heap w1)[b]? = some (Obj.cells { toList := SV.cells (SV.struct [SV.int IntKind.u8 97, SV.int IntKind.u8 98, SV.int IntKind.u8 99]) }
  5) → MarkStr w1 { ptr := some { block := b, off := 0 }, len := 3, cap := 3 } [b_1, b_3] fun (w : World) => Ret Try.prog 21 [SV.struct [SV.ptr p_2, SV.ptr
  p_3], SV.int IntKind.i64 0, SV.slice { ptr := some { block := b, off := 0 }, len := 3, cap := 3 }, SV.bool false] w fun (r : SV) (w1 : World) => ∃ (b :
  Bool), r = SV.bool b ∧ Keeps [b_1, b_3] w w1 ∧ Br (!b) (R (SV.bool false) w1) (some (SV.box b_1 53 (SV.struct [SV.ptr p, SV.ptr p_1])) = some (SV.box b_1
  53 (SV.struct [SV.ptr p, SV.ptr p_1])) ∧ some (SV.box b_3 53 (SV.struct [SV.ptr p_2, SV.ptr p_3])) = some (SV.box b_3 53 (SV.struct [SV.ptr p_2, SV.ptr
  p_3])) ∧ J w1)))))) → J n w1) → Br (decide (max < 8)) (J 64 w) (Br (decide (max > 65535)) (J 64 w) (J max w))
theorem f8_of (max : Int) (pieces : Sl) (w : World) (R : SV → World → Prop) (hV : vc8 max pieces w R) : Ret Try.prog 8 [.int .i64 max, .slice pieces] w R :=
  have e : vc8 max pieces w R = fnVC X Try.f8 a8 [.int .i64 max, .slice pieces] w R := by kernel_rfl
  fnVC_sound X_ok (n := a8) (e ▸ hV) (by kernel_rfl) (by kernel_rfl) rfl rfl

def vc30 (l : Sl) (w : World) (R : SV → World → Prop) : Prop :=
  ∃ (I : Int → Int → World → Prop),
    ∃ (M : Int → Int → World → Nat),
      I 70 0 w ∧
        ∀ (n n_1 : Int) (w1 : World),
          I n n_1 w1 →
            Br (decide (n_1 < (↑l.2 : Int)))
              (Need (decide (0 ≤ n_1) && decide (n_1 < (↑l.2 : Int)) && Option.isSome l.1)
                (∃ (s : Sl),
                  World.cell? w1 (Sl.at l 1 (Int.toNat n_1)) = some (Sl.val s) ∧
                    ∃ (I_1 : Int → World → Prop),
                      ∃ (M_1 : Int → World → Nat),
                        I_1 0 w1 ∧
                          ∀ (n_2 : Int) (w1_1 : World),
                            I_1 n_2 w1_1 →
                              Need (decide (0 ≤ n_1) && decide (n_1 < (↑l.2 : Int)) && Option.isSome l.1)
                                (∃ (s_1 : Sl),
                                  World.cell? w1_1 (Sl.at l 1 (Int.toNat n_1)) = some (Sl.val s_1) ∧
                                    Br (decide (n_2 < (↑s_1.2 : Int)))
                                      (Need (decide (0 ≤ n_1) && decide (n_1 < (↑l.2 : Int)) && Option.isSome l.1)
                                        (∃ (s : Sl),
                                          World.cell? w1_1 (Sl.at l 1 (Int.toNat n_1)) = some (Sl.val s) ∧
                                            Need (decide (0 ≤ n_2) && decide (n_2 < (↑s.2 : Int)) && Option.isSome s.1)
                                              (Store w1_1 (Sl.at s 1 (Int.toNat n_2)) (SV.cells (SV.int IntKind.u8 (wr IntKind.u8 (wr IntKind.i64 (Int.tmod n_1 200 + 40))))) []
                                                fun (w1 : World) => I_1 (wr IntKind.i64 (n_2 + 1)) w1 ∧ M_1 (wr IntKind.i64 (n_2 + 1)) w1 < M_1 n_2 w1_1)))
                                      (I (wr IntKind.i64 (n + (↑s.2 : Int))) (wr IntKind.i64 (n_1 + 1)) w1_1 ∧
                                        M (wr IntKind.i64 (n + (↑s.2 : Int))) (wr IntKind.i64 (n_1 + 1)) w1_1 < M n n_1 w1))))
              (∃ (I : Sl → Int → World → Prop),
                ∃ (M : Sl → Int → World → Nat),
                  I { ptr := none, len := 0, cap := 0 } 0 w1 ∧
                    ∀ (s : Sl) (n_2 : Int) (w1 : World),
                      I s n_2 w1 →
                        Br (decide (n_2 < (↑l.2 : Int)))
                          (Need (decide (0 ≤ n_2) && decide (n_2 < (↑l.2 : Int)) && Option.isSome l.1)
                            (∃ (s_1 : Sl),
                              World.cell? w1 (Sl.at l 1 (Int.toNat n_2)) = some (Sl.val s_1) ∧
                                ∃ (I_1 : Sl → Int → World → Prop),
                                  ∃ (M_1 : Sl → Int → World → Nat),
                                    I_1 s_1 0 w1 ∧
                                      ∀ (s_2 : Sl) (n_3 : Int) (w1_1 : World),
                                        I_1 s_2 n_3 w1_1 →
                                          Br (decide (n_3 < n))
                                            (∀ (b : Nat) (w1 : World),
                                              Upd [] [b] w1_1 w1 →
                                                (World.heap w1)[b]? =
                                                    some
                                                      (Obj.cells { toList := SV.cells (SV.struct [SV.int IntKind.u8 (wr IntKind.u8 (wr IntKind.i64 (Int.tmod n_2 200 + 40)))]) } 5) →
                                                  Vc.Append 5 1 1 s_2 { ptr := some { block := b, off := 0 }, len := 1, cap := 1 } [] w1 fun (r : Sl) (w : World) =>
                                                    I_1 r (wr IntKind.i64 (n_3 + 1)) w ∧ M_1 r (wr IntKind.i64 (n_3 + 1)) w < M_1 s_2 n_3 w1_1)
                                            (∀ (b : Nat) (w1_2 : World),
                                              Upd [] [b] w1_1 w1_2 →
                                                (World.heap w1_2)[b]? = some (Obj.cells { toList := SV.cells (SV.struct [SV.slice s_2]) } 34) →
                                                  Vc.Append 34 1 24 s { ptr := some { block := b, off := 0 }, len := 1, cap := 1 } [] w1_2 fun (r : Sl) (w : World) =>
                                                    I r (wr IntKind.i64 (n_2 + 1)) w ∧ M r (wr IntKind.i64 (n_2 + 1)) w < M s n_2 w1)))
                          (∃ (I : Int → World → Prop),
                            ∃ (M : Int → World → Nat),
                              I 0 w1 ∧
                                ∀ (n_3 : Int) (w1 : World),
                                  I n_3 w1 →
                                    Br (decide (n_3 < (↑l.2 : Int)))
                                      (∀ (J : World → Prop),
                                        (∀ (w1_1 : World), I (wr IntKind.i64 (n_3 + 1)) w1_1 ∧ M (wr IntKind.i64 (n_3 + 1)) w1_1 < M n_3 w1 → J w1_1) →
                                          Need (decide (0 ≤ n_3) && decide (n_3 < (↑l.2 : Int)) && Option.isSome l.1)
                                            (∃ (s_1 : Sl),
                                              World.cell? w1 (Sl.at l 1 (Int.toNat n_3)) = some (Sl.val s_1) ∧
                                                ∀ (w1_1 : World),
                                                  Upd [] [] w1 w1_1 →
                                                    Ret Try.prog 44 [SV.slice s_1, SV.int IntKind.u8 (wr IntKind.u8 (wr IntKind.i64 (Int.tmod n_3 200 + 40)))] w1_1
                                                      fun (r : SV) (w1_2 : World) =>
                                                      ∃ (b : Bool),
                                                        r = SV.bool b ∧
                                                          Upd [] [] w1 w1_2 ∧
                                                            Br (!b) (R (SV.bool false) w1_2)
                                                              (Need (decide (0 ≤ n_3) && decide (n_3 < (↑s.2 : Int)) && Option.isSome s.1)
                                                                (∃ (s_2 : Sl),
                                                                  World.cell? w1 (Sl.at s 1 (Int.toNat n_3)) = some (Sl.val s_2) ∧
                                                                    Ret Try.prog 44 [SV.slice s_2, SV.int IntKind.u8 (wr IntKind.u8 (wr IntKind.i64 (Int.tmod n_3 200 + 40)))] w1_2
                                                                      fun (r : SV) (w1_3 : World) =>
                                                                      ∃ (b : Bool),
                                                                        r = SV.bool b ∧
                                                                          Upd [] [] w1 w1_3 ∧
                                                                            Br (!b) (R (SV.bool false) w1_3)
                                                                              (Need (decide (0 ≤ n_3) && decide (n_3 < (↑s.2 : Int)) && Option.isSome s.1)
                                                                                (∃ (s_3 : Sl),
                                                                                  World.cell? w1 (Sl.at s 1 (Int.toNat n_3)) = some (Sl.val s_3) ∧
                                                                                    Need (decide (0 ≤ n_3) && decide (n_3 < (↑l.2 : Int)) && Option.isSome l.1)
                                                                                      (∃ (s : Sl),
                                                                                        World.cell? w1 (Sl.at l 1 (Int.toNat n_3)) = some (Sl.val s) ∧
                                                                                          Br ((↑s_3.2 : Int) != wr IntKind.i64 ((↑s.2 : Int) + n)) (R (SV.bool false) w1_3)
                                                                                            (J w1_3))))))))
                                      (R (SV.bool true) w1)))
theorem f30_of (l : Sl) (w : World) (R : SV → World → Prop) (hV : vc30 l w R) : Ret Try.prog 30 [.slice l] w R :=
  have e : vc30 l w R = fnVC X Try.f30 a30 [.slice l] w R := by kernel_rfl
  fnVC_sound X_ok (n := a30) (e ▸ hV) (by kernel_rfl) (by kernel_rfl) rfl rfl

def vc44 (l : Sl) (m : Int) (w : World) (R : SV → World → Prop) : Prop :=
  ∃ (I : Int → World → Prop),
    ∃ (M : Int → World → Nat),
      I 0 w ∧
        ∀ (n : Int) (w1 : World),
          I n w1 →
            Br (decide (n < (↑l.2 : Int)))
              (Need (decide (0 ≤ n) && decide (n < (↑l.2 : Int)) && Option.isSome l.1)
                (∃ (n_1 : Int),
                  World.cell? w1 (Sl.at l 1 (Int.toNat n)) = some (Value.int IntKind.u8 n_1) ∧
                    Br (n_1 != m) (R (SV.bool false) w1) (I (wr IntKind.i64 (n + 1)) w1 ∧ M (wr IntKind.i64 (n + 1)) w1 < M n w1)))
              (R (SV.bool true) w1)
theorem f44_of (l : Sl) (m : Int) (w : World) (R : SV → World → Prop) (hV : vc44 l m w R) : Ret Try.prog 44 [.slice l, .int .u8 m] w R :=
  have e : vc44 l m w R = fnVC X Try.f44 a44 [.slice l, .int .u8 m] w R := by kernel_rfl
  fnVC_sound X_ok (n := a44) (e ▸ hV) (by kernel_rfl) (by kernel_rfl) rfl rfl

end Go.Vc.S11
