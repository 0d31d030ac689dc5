import Derived.Test.YtkkdnnpnbmpifaaG3
import Derived.KernelRfl
open Go Go.Vc Go.Vc.S11 Go.Proofs
set_option maxRecDepth 100000
set_option linter.unusedVariables false
namespace Go.Vc.S11
def a1007 : Ann := (.seq .leaf (.seq .leaf (.seq (.seq .leaf (.cond (.seq .leaf .leaf) .leaf)) (.seq .leaf (.cut [] [0, 1] (.seq .leaf (.cond (.seq .leaf .leaf) .leaf)) (.cut [(.b 0, (.struct false [(.ptr 76), (.ptr 90)]))] [1] (.seq .leaf (.cond .leaf .leaf)) (.seq .leaf (.seq .leaf (.seq .leaf (.seq (.seq .leaf (.block (.loopF [3] [(.t 11, (.int .i64))] [0, 1, 2] (.cut [] [0, 1, 2] (.seq .leaf (.cond .leaf .leaf)) (.cut [] [0, 1, 2] (.block (.seq .leaf (.seq .leaf (.seq (.seq .leaf (.cond (.seq (.seq .leaf (.cond (.seq .leaf .leaf) .leaf)) .leaf) .leaf)) (.seq .leaf (.seq (.drawK [] (.early 0 (.early 1 (.early 2 (.early 3 (.early 4 (.early 5 (.early 7 (.early 8 (.fork [(6, (.fork [(9, (.early 10 (.early 11 (.early 12 (.fork [(13, (.fork [(14, (.early 15 .done))]))]))))), (13, (.fork [(9, (.early 10 (.early 11 (.early 12 (.fork [(14, (.early 15 .done))])))))]))])), (13, (.fork [(6, (.fork [(9, (.early 10 (.early 11 (.early 12 (.fork [(14, (.early 15 .done))])))))]))]))])))))))))) (.seq .leaf (.seq .leaf (.cond (.seq .leaf .leaf) .leaf))))))))) .leaf))))) (.seq .leaf .leaf)))))))))))
def tail7a (p0 : Int) (p1 : Nat) (p2 : World) (p3 : Option Addr) (p4 : Option Addr) (p5 : Nat) (p6 : Nat) (p7 : Nat) (p8 : Nat) (p9 : SV → World → Prop)
  (p10 : Option Addr) (p11 : Option Addr) (p12 : World → Prop) (p13 : Sl) (p14 : Nat) (p15 : Int) (p16 : Bool) : Prop := ∀ (z0 : Nat), Br (p0 != 1) (Br (decide
  (p0 ≥ 2)) (Br (decide (p0 ≤ 4)) (∀ (z1 : World), Upd [] [z0, p1] p2 z1 → Ret Try.prog 22 [SV.struct [SV.ptr p3, SV.ptr p4], SV.int IntKind.i64 p0, SV.ptr
  (some { block := p5, off := 0 })] z1 fun (z2 : SV) (z3 : World) => ∃ (z4 : Bool), z2 = SV.bool z4 ∧ Keeps [p6, p7, p8, p1, z0] z1 z3 ∧ Br (!z4) (p9 (SV.bool
  false) z3) (some (SV.box p6 53 (SV.struct [SV.ptr p3, SV.ptr p4])) = some (SV.box p6 53 (SV.struct [SV.ptr p3, SV.ptr p4])) ∧ some (SV.box p7 53 (SV.struct
  [SV.ptr p10, SV.ptr p11])) = some (SV.box p7 53 (SV.struct [SV.ptr p10, SV.ptr p11])) ∧ some (SV.box p8 63 (SV.struct [SV.struct [SV.ptr p3, SV.ptr p4],
  SV.struct [SV.ptr p10, SV.ptr p11]])) = some (SV.box p8 63 (SV.struct [SV.struct [SV.ptr p3, SV.ptr p4], SV.struct [SV.ptr p10, SV.ptr p11]])) ∧ p12 z3))
  (∀ (z5 : World), Upd [] [z0, p1] p2 z5 → some (SV.box p6 53 (SV.struct [SV.ptr p3, SV.ptr p4])) = some (SV.box p6 53 (SV.struct [SV.ptr p3, SV.ptr p4]))
  ∧ some (SV.box p7 53 (SV.struct [SV.ptr p10, SV.ptr p11])) = some (SV.box p7 53 (SV.struct [SV.ptr p10, SV.ptr p11])) ∧ some (SV.box p8 63 (SV.struct [SV.struct
  [SV.ptr p3, SV.ptr p4], SV.struct [SV.ptr p10, SV.ptr p11]])) = some (SV.box p8 63 (SV.struct [SV.struct [SV.ptr p3, SV.ptr p4], SV.struct [SV.ptr p10,
  SV.ptr p11]])) ∧ p12 z5)) (∀ (z6 : World), Upd [] [z0, p1] p2 z6 → some (SV.box p6 53 (SV.struct [SV.ptr p3, SV.ptr p4])) = some (SV.box p6 53 (SV.struct
  [SV.ptr p3, SV.ptr p4])) ∧ some (SV.box p7 53 (SV.struct [SV.ptr p10, SV.ptr p11])) = some (SV.box p7 53 (SV.struct [SV.ptr p10, SV.ptr p11])) ∧ some (SV.box
  p8 63 (SV.struct [SV.struct [SV.ptr p3, SV.ptr p4], SV.struct [SV.ptr p10, SV.ptr p11]])) = some (SV.box p8 63 (SV.struct [SV.struct [SV.ptr p3, SV.ptr
  p4], SV.struct [SV.ptr p10, SV.ptr p11]])) ∧ p12 z6)) (∀ (z7 : World), Upd [] [z0, p1] p2 z7 → Ret Try.prog 13 [SV.slice p13] z7 fun (z8 : SV) (z9 : World)
  => ∃ (z10 : Sl), z8 = SV.slice z10 ∧ Keeps [p6, p7, p8, p1, z0] z7 z9 ∧ ∃ (z11 : List Nat), (∀ (z12 : Nat), z12 ∈ z11 → z12 < List.length (World.heap z9).1)
  ∧ (∀ (z13 : World), Upd [] [] z9 z13 → Ret Try.prog 25 [SV.slice { ptr := some { block := p14, off := 0 }, len := 8262, cap := 8262 }, SV.slice z10] z13
  fun (z14 : SV) (z15 : World) => ∃ (z16 : Sl), z14 = SV.slice z16 ∧ Keeps [p6, p7, p8, p1, z0] z13 z15 ∧ Kept z11 z9 z15 ∧ (Ret Try.prog 12 [SV.ptr p3, SV.int
  IntKind.i64 p15, SV.slice z16, SV.bool p16] z15 fun (z17 : SV) (z18 : World) => ∃ (z19 : Int), ∃ (z20 : Int), ∃ (z21 : Bool), ∃ (z22 : Int), z17 = SV.tuple
  [SV.struct [SV.int IntKind.i64 z19, SV.int IntKind.i64 z20, SV.bool z21], SV.int IntKind.i64 z22] ∧ Keeps [p6, p7, p8, p1, z0] z15 z18 ∧ ∀ (z23 : Nat),
  Kept z11 z9 z18 ∧ ∀ (z24 : World), Upd [] [z23] z18 z24 → Ret Try.prog 26 [SV.ptr p4, SV.int IntKind.i64 p15, SV.slice z10, SV.bool p16] z24 fun (z25 :
  SV) (z26 : World) => ∃ (z27 : Int), ∃ (z28 : Int), ∃ (z29 : Bool), ∃ (z30 : Int), z25 = SV.tuple [SV.struct [SV.int IntKind.i64 z27, SV.int IntKind.i64
  z28, SV.bool z29], SV.int IntKind.i64 z30] ∧ Keeps [p6, p7, p8, p1, z0, z23] z24 z26 ∧ ∀ (z31 : Nat), Br (z22 != z30) (∀ (z32 : World), Upd [] [z31] z26
  z32 → p9 (SV.bool false) z32) (Br (!(z19 == z27 && (z20 == z28 && z21 == z29))) (∀ (z33 : World), Upd [] [z31] z26 z33 → p9 (SV.bool false) z33) (∀ (z34
  : World), Upd [] [z31] z26 z34 → Ret Try.prog 27 [SV.slice { ptr := some { block := p14, off := 0 }, len := 8262, cap := 8262 }, SV.slice z10] z34 fun (z35
  : SV) (z36 : World) => ∃ (z37 : Bool), z35 = SV.bool z37 ∧ Keeps [p6, p7, p8, p1, z0, z23, z31] z34 z36 ∧ Br (!z37) (p9 (SV.bool false) z36) (some (SV.box
  p6 53 (SV.struct [SV.ptr p3, SV.ptr p4])) = some (SV.box p6 53 (SV.struct [SV.ptr p3, SV.ptr p4])) ∧ some (SV.box p7 53 (SV.struct [SV.ptr p10, SV.ptr p11]))
  = some (SV.box p7 53 (SV.struct [SV.ptr p10, SV.ptr p11])) ∧ some (SV.box p8 63 (SV.struct [SV.struct [SV.ptr p3, SV.ptr p4], SV.struct [SV.ptr p10, SV.ptr
  p11]])) = some (SV.box p8 63 (SV.struct [SV.struct [SV.ptr p3, SV.ptr p4], SV.struct [SV.ptr p10, SV.ptr p11]])) ∧ p12 z36)))) ∧ ∀ (z38 : Nat), Kept z11
  z9 z15 ∧ ∀ (z39 : World), Upd [] [z38] z15 z39 → Ret Try.prog 12 [SV.ptr p3, SV.int IntKind.i64 p15, SV.slice z16, SV.bool p16] z39 fun (z40 : SV) (z41
  : World) => ∃ (z42 : Int), ∃ (z43 : Int), ∃ (z44 : Bool), ∃ (z45 : Int), z40 = SV.tuple [SV.struct [SV.int IntKind.i64 z42, SV.int IntKind.i64 z43, SV.bool
  z44], SV.int IntKind.i64 z45] ∧ Keeps [p6, p7, p8, p1, z0, z38] z39 z41 ∧ ∀ (z46 : World), Upd [z38] [] z41 z46 → Ret Try.prog 26 [SV.ptr p4, SV.int IntKind.i64
  p15, SV.slice z10, SV.bool p16] z46 fun (z47 : SV) (z48 : World) => ∃ (z49 : Int), ∃ (z50 : Int), ∃ (z51 : Bool), ∃ (z52 : Int), z47 = SV.tuple [SV.struct
  [SV.int IntKind.i64 z49, SV.int IntKind.i64 z50, SV.bool z51], SV.int IntKind.i64 z52] ∧ Keeps [p6, p7, p8, p1, z0, z38] z46 z48 ∧ ∀ (z53 : Nat), Br (z45
  != z52) (∀ (z54 : World), Upd [] [z53] z48 z54 → p9 (SV.bool false) z54) (Br (!(z42 == z49 && (z43 == z50 && z44 == z51))) (∀ (z55 : World), Upd [] [z53]
  z48 z55 → p9 (SV.bool false) z55) (∀ (z56 : World), Upd [] [z53] z48 z56 → Ret Try.prog 27 [SV.slice { ptr := some { block := p14, off := 0 }, len := 8262, cap := 8262 },
  SV.slice z10] z56 fun (z57 : SV) (z58 : World) => ∃ (z59 : Bool), z57 = SV.bool z59 ∧ Keeps [p6, p7, p8, p1, z0, z38, z53] z56 z58 ∧ Br (!z59) (p9 (SV.bool
  false) z58) (some (SV.box p6 53 (SV.struct [SV.ptr p3, SV.ptr p4])) = some (SV.box p6 53 (SV.struct [SV.ptr p3, SV.ptr p4])) ∧ some (SV.box p7 53 (SV.struct
  [SV.ptr p10, SV.ptr p11])) = some (SV.box p7 53 (SV.struct [SV.ptr p10, SV.ptr p11])) ∧ some (SV.box p8 63 (SV.struct [SV.struct [SV.ptr p3, SV.ptr p4],
  SV.struct [SV.ptr p10, SV.ptr p11]])) = some (SV.box p8 63 (SV.struct [SV.struct [SV.ptr p3, SV.ptr p4], SV.struct [SV.ptr p10, SV.ptr p11]])) ∧ p12 z58))))
  ∧ ∀ (z60 : Nat), Kept z11 z9 z9 ∧ ∀ (z61 : World), Upd [] [z60] z9 z61 → Ret Try.prog 25 [SV.slice { ptr := some { block := p14, off := 0 }, len := 8262, cap := 8262 },
  SV.slice z10] z61 fun (z62 : SV) (z63 : World) => ∃ (z64 : Sl), z62 = SV.slice z64 ∧ Keeps [p6, p7, p8, p1, z0, z60] z61 z63 ∧ Kept z11 z9 z63 ∧ Ret Try.prog
  12 [SV.ptr p3, SV.int IntKind.i64 p15, SV.slice z64, SV.bool p16] z63 fun (z65 : SV) (z66 : World) => ∃ (z67 : Int), ∃ (z68 : Int), ∃ (z69 : Bool), ∃ (z70
  : Int), z65 = SV.tuple [SV.struct [SV.int IntKind.i64 z67, SV.int IntKind.i64 z68, SV.bool z69], SV.int IntKind.i64 z70] ∧ Keeps [p6, p7, p8, p1, z0, z60]
  z63 z66 ∧ ∀ (z71 : World), Upd [z60] [] z66 z71 → Ret Try.prog 26 [SV.ptr p4, SV.int IntKind.i64 p15, SV.slice z10, SV.bool p16] z71 fun (z72 : SV) (z73
  : World) => ∃ (z74 : Int), ∃ (z75 : Int), ∃ (z76 : Bool), ∃ (z77 : Int), z72 = SV.tuple [SV.struct [SV.int IntKind.i64 z74, SV.int IntKind.i64 z75, SV.bool
  z76], SV.int IntKind.i64 z77] ∧ Keeps [p6, p7, p8, p1, z0, z60] z71 z73 ∧ ∀ (z78 : Nat), Br (z70 != z77) (∀ (z79 : World), Upd [] [z78] z73 z79 → p9 (SV.bool
  false) z79) (Br (!(z67 == z74 && (z68 == z75 && z69 == z76))) (∀ (z80 : World), Upd [] [z78] z73 z80 → p9 (SV.bool false) z80) (∀ (z81 : World), Upd []
  [z78] z73 z81 → Ret Try.prog 27 [SV.slice { ptr := some { block := p14, off := 0 }, len := 8262, cap := 8262 }, SV.slice z10] z81 fun (z82 : SV) (z83 :
  World) => ∃ (z84 : Bool), z82 = SV.bool z84 ∧ Keeps [p6, p7, p8, p1, z0, z60, z78] z81 z83 ∧ Br (!z84) (p9 (SV.bool false) z83) (some (SV.box p6 53 (SV.struct
  [SV.ptr p3, SV.ptr p4])) = some (SV.box p6 53 (SV.struct [SV.ptr p3, SV.ptr p4])) ∧ some (SV.box p7 53 (SV.struct [SV.ptr p10, SV.ptr p11])) = some (SV.box
  p7 53 (SV.struct [SV.ptr p10, SV.ptr p11])) ∧ some (SV.box p8 63 (SV.struct [SV.struct [SV.ptr p3, SV.ptr p4], SV.struct [SV.ptr p10, SV.ptr p11]])) = some
  (SV.box p8 63 (SV.struct [SV.struct [SV.ptr p3, SV.ptr p4], SV.struct [SV.ptr p10, SV.ptr p11]])) ∧ p12 z83))))
def tail7b (p0 : Int) (p1 : Nat) (p2 : World) (p3 : Option Addr) (p4 : Option Addr) (p5 : Nat) (p6 : Nat) (p7 : Nat) (p8 : Nat) (p9 : SV → World → Prop)
  (p10 : Option Addr) (p11 : Option Addr) (p12 : World → Prop) (p13 : Sl) (p14 : Nat) (p15 : Int) (p16 : Bool) : Prop := ∀ (z0 : Nat), Br (p0 != 1) (Br (decide
  (p0 ≥ 2)) (Br (decide (p0 ≤ 4)) (∀ (z1 : World), Upd [] [z0, p1] p2 z1 → Ret Try.prog 22 [SV.struct [SV.ptr p3, SV.ptr p4], SV.int IntKind.i64 p0, SV.ptr
  (some { block := p5, off := 0 })] z1 fun (z2 : SV) (z3 : World) => ∃ (z4 : Bool), z2 = SV.bool z4 ∧ Keeps [p6, p7, p8, p1, z0] z1 z3 ∧ Br (!z4) (p9 (SV.bool
  false) z3) (some (SV.box p6 53 (SV.struct [SV.ptr p10, SV.ptr p11])) = some (SV.box p6 53 (SV.struct [SV.ptr p10, SV.ptr p11])) ∧ some (SV.box p7 53 (SV.struct
  [SV.ptr p3, SV.ptr p4])) = some (SV.box p7 53 (SV.struct [SV.ptr p3, SV.ptr p4])) ∧ some (SV.box p8 63 (SV.struct [SV.struct [SV.ptr p10, SV.ptr p11], SV.struct
  [SV.ptr p3, SV.ptr p4]])) = some (SV.box p8 63 (SV.struct [SV.struct [SV.ptr p10, SV.ptr p11], SV.struct [SV.ptr p3, SV.ptr p4]])) ∧ p12 z3)) (∀ (z5 : World),
  Upd [] [z0, p1] p2 z5 → some (SV.box p6 53 (SV.struct [SV.ptr p10, SV.ptr p11])) = some (SV.box p6 53 (SV.struct [SV.ptr p10, SV.ptr p11])) ∧ some (SV.box
  p7 53 (SV.struct [SV.ptr p3, SV.ptr p4])) = some (SV.box p7 53 (SV.struct [SV.ptr p3, SV.ptr p4])) ∧ some (SV.box p8 63 (SV.struct [SV.struct [SV.ptr p10,
  SV.ptr p11], SV.struct [SV.ptr p3, SV.ptr p4]])) = some (SV.box p8 63 (SV.struct [SV.struct [SV.ptr p10, SV.ptr p11], SV.struct [SV.ptr p3, SV.ptr p4]]))
  ∧ p12 z5)) (∀ (z6 : World), Upd [] [z0, p1] p2 z6 → some (SV.box p6 53 (SV.struct [SV.ptr p10, SV.ptr p11])) = some (SV.box p6 53 (SV.struct [SV.ptr p10,
  SV.ptr p11])) ∧ some (SV.box p7 53 (SV.struct [SV.ptr p3, SV.ptr p4])) = some (SV.box p7 53 (SV.struct [SV.ptr p3, SV.ptr p4])) ∧ some (SV.box p8 63 (SV.struct
  [SV.struct [SV.ptr p10, SV.ptr p11], SV.struct [SV.ptr p3, SV.ptr p4]])) = some (SV.box p8 63 (SV.struct [SV.struct [SV.ptr p10, SV.ptr p11], SV.struct
  [SV.ptr p3, SV.ptr p4]])) ∧ p12 z6)) (∀ (z7 : World), Upd [] [z0, p1] p2 z7 → Ret Try.prog 13 [SV.slice p13] z7 fun (z8 : SV) (z9 : World) => ∃ (z10 : Sl),
  z8 = SV.slice z10 ∧ Keeps [p6, p7, p8, p1, z0] z7 z9 ∧ ∃ (z11 : List Nat), (∀ (z12 : Nat), z12 ∈ z11 → z12 < List.length (World.heap z9).1) ∧ (∀ (z13 :
  World), Upd [] [] z9 z13 → Ret Try.prog 25 [SV.slice { ptr := some { block := p14, off := 0 }, len := 8262, cap := 8262 }, SV.slice z10] z13 fun (z14 :
  SV) (z15 : World) => ∃ (z16 : Sl), z14 = SV.slice z16 ∧ Keeps [p6, p7, p8, p1, z0] z13 z15 ∧ Kept z11 z9 z15 ∧ (Ret Try.prog 12 [SV.ptr p3, SV.int IntKind.i64
  p15, SV.slice z16, SV.bool p16] z15 fun (z17 : SV) (z18 : World) => ∃ (z19 : Int), ∃ (z20 : Int), ∃ (z21 : Bool), ∃ (z22 : Int), z17 = SV.tuple [SV.struct
  [SV.int IntKind.i64 z19, SV.int IntKind.i64 z20, SV.bool z21], SV.int IntKind.i64 z22] ∧ Keeps [p6, p7, p8, p1, z0] z15 z18 ∧ ∀ (z23 : Nat), Kept z11 z9
  z18 ∧ ∀ (z24 : World), Upd [] [z23] z18 z24 → Ret Try.prog 26 [SV.ptr p4, SV.int IntKind.i64 p15, SV.slice z10, SV.bool p16] z24 fun (z25 : SV) (z26 : World)
  => ∃ (z27 : Int), ∃ (z28 : Int), ∃ (z29 : Bool), ∃ (z30 : Int), z25 = SV.tuple [SV.struct [SV.int IntKind.i64 z27, SV.int IntKind.i64 z28, SV.bool z29],
  SV.int IntKind.i64 z30] ∧ Keeps [p6, p7, p8, p1, z0, z23] z24 z26 ∧ ∀ (z31 : Nat), Br (z22 != z30) (∀ (z32 : World), Upd [] [z31] z26 z32 → p9 (SV.bool
  false) z32) (Br (!(z19 == z27 && (z20 == z28 && z21 == z29))) (∀ (z33 : World), Upd [] [z31] z26 z33 → p9 (SV.bool false) z33) (∀ (z34 : World), Upd []
  [z31] z26 z34 → Ret Try.prog 27 [SV.slice { ptr := some { block := p14, off := 0 }, len := 8262, cap := 8262 }, SV.slice z10] z34 fun (z35 : SV) (z36 :
  World) => ∃ (z37 : Bool), z35 = SV.bool z37 ∧ Keeps [p6, p7, p8, p1, z0, z23, z31] z34 z36 ∧ Br (!z37) (p9 (SV.bool false) z36) (some (SV.box p6 53 (SV.struct
  [SV.ptr p10, SV.ptr p11])) = some (SV.box p6 53 (SV.struct [SV.ptr p10, SV.ptr p11])) ∧ some (SV.box p7 53 (SV.struct [SV.ptr p3, SV.ptr p4])) = some (SV.box
  p7 53 (SV.struct [SV.ptr p3, SV.ptr p4])) ∧ some (SV.box p8 63 (SV.struct [SV.struct [SV.ptr p10, SV.ptr p11], SV.struct [SV.ptr p3, SV.ptr p4]])) = some
  (SV.box p8 63 (SV.struct [SV.struct [SV.ptr p10, SV.ptr p11], SV.struct [SV.ptr p3, SV.ptr p4]])) ∧ p12 z36)))) ∧ ∀ (z38 : Nat), Kept z11 z9 z15 ∧ ∀ (z39
  : World), Upd [] [z38] z15 z39 → Ret Try.prog 12 [SV.ptr p3, SV.int IntKind.i64 p15, SV.slice z16, SV.bool p16] z39 fun (z40 : SV) (z41 : World) => ∃ (z42
  : Int), ∃ (z43 : Int), ∃ (z44 : Bool), ∃ (z45 : Int), z40 = SV.tuple [SV.struct [SV.int IntKind.i64 z42, SV.int IntKind.i64 z43, SV.bool z44], SV.int IntKind.i64
  z45] ∧ Keeps [p6, p7, p8, p1, z0, z38] z39 z41 ∧ ∀ (z46 : World), Upd [z38] [] z41 z46 → Ret Try.prog 26 [SV.ptr p4, SV.int IntKind.i64 p15, SV.slice z10,
  SV.bool p16] z46 fun (z47 : SV) (z48 : World) => ∃ (z49 : Int), ∃ (z50 : Int), ∃ (z51 : Bool), ∃ (z52 : Int), z47 = SV.tuple [SV.struct [SV.int IntKind.i64
  z49, SV.int IntKind.i64 z50, SV.bool z51], SV.int IntKind.i64 z52] ∧ Keeps [p6, p7, p8, p1, z0, z38] z46 z48 ∧ ∀ (z53 : Nat), Br (z45 != z52) (∀ (z54 :
  World), Upd [] [z53] z48 z54 → p9 (SV.bool false) z54) (Br (!(z42 == z49 && (z43 == z50 && z44 == z51))) (∀ (z55 : World), Upd [] [z53] z48 z55 → p9 (SV.bool
  false) z55) (∀ (z56 : World), Upd [] [z53] z48 z56 → Ret Try.prog 27 [SV.slice { ptr := some { block := p14, off := 0 }, len := 8262, cap := 8262 }, SV.slice
  z10] z56 fun (z57 : SV) (z58 : World) => ∃ (z59 : Bool), z57 = SV.bool z59 ∧ Keeps [p6, p7, p8, p1, z0, z38, z53] z56 z58 ∧ Br (!z59) (p9 (SV.bool false)
  z58) (some (SV.box p6 53 (SV.struct [SV.ptr p10, SV.ptr p11])) = some (SV.box p6 53 (SV.struct [SV.ptr p10, SV.ptr p11])) ∧ some (SV.box p7 53 (SV.struct
  [SV.ptr p3, SV.ptr p4])) = some (SV.box p7 53 (SV.struct [SV.ptr p3, SV.ptr p4])) ∧ some (SV.box p8 63 (SV.struct [SV.struct [SV.ptr p10, SV.ptr p11], SV.struct
  [SV.ptr p3, SV.ptr p4]])) = some (SV.box p8 63 (SV.struct [SV.struct [SV.ptr p10, SV.ptr p11], SV.struct [SV.ptr p3, SV.ptr p4]])) ∧ p12 z58)))) ∧ ∀ (z60
  : Nat), Kept z11 z9 z9 ∧ ∀ (z61 : World), Upd [] [z60] z9 z61 → Ret Try.prog 25 [SV.slice { ptr := some { block := p14, off := 0 }, len := 8262, cap := 8262 },
  SV.slice z10] z61 fun (z62 : SV) (z63 : World) => ∃ (z64 : Sl), z62 = SV.slice z64 ∧ Keeps [p6, p7, p8, p1, z0, z60] z61 z63 ∧ Kept z11 z9 z63 ∧ Ret Try.prog
  12 [SV.ptr p3, SV.int IntKind.i64 p15, SV.slice z64, SV.bool p16] z63 fun (z65 : SV) (z66 : World) => ∃ (z67 : Int), ∃ (z68 : Int), ∃ (z69 : Bool), ∃ (z70
  : Int), z65 = SV.tuple [SV.struct [SV.int IntKind.i64 z67, SV.int IntKind.i64 z68, SV.bool z69], SV.int IntKind.i64 z70] ∧ Keeps [p6, p7, p8, p1, z0, z60]
  z63 z66 ∧ ∀ (z71 : World), Upd [z60] [] z66 z71 → Ret Try.prog 26 [SV.ptr p4, SV.int IntKind.i64 p15, SV.slice z10, SV.bool p16] z71 fun (z72 : SV) (z73
  : World) => ∃ (z74 : Int), ∃ (z75 : Int), ∃ (z76 : Bool), ∃ (z77 : Int), z72 = SV.tuple [SV.struct [SV.int IntKind.i64 z74, SV.int IntKind.i64 z75, SV.bool
  z76], SV.int IntKind.i64 z77] ∧ Keeps [p6, p7, p8, p1, z0, z60] z71 z73 ∧ ∀ (z78 : Nat), Br (z70 != z77) (∀ (z79 : World), Upd [] [z78] z73 z79 → p9 (SV.bool
  false) z79) (Br (!(z67 == z74 && (z68 == z75 && z69 == z76))) (∀ (z80 : World), Upd [] [z78] z73 z80 → p9 (SV.bool false) z80) (∀ (z81 : World), Upd []
  [z78] z73 z81 → Ret Try.prog 27 [SV.slice { ptr := some { block := p14, off := 0 }, len := 8262, cap := 8262 }, SV.slice z10] z81 fun (z82 : SV) (z83 :
  World) => ∃ (z84 : Bool), z82 = SV.bool z84 ∧ Keeps [p6, p7, p8, p1, z0, z60, z78] z81 z83 ∧ Br (!z84) (p9 (SV.bool false) z83) (some (SV.box p6 53 (SV.struct
  [SV.ptr p10, SV.ptr p11])) = some (SV.box p6 53 (SV.struct [SV.ptr p10, SV.ptr p11])) ∧ some (SV.box p7 53 (SV.struct [SV.ptr p3, SV.ptr p4])) = some (SV.box
  p7 53 (SV.struct [SV.ptr p3, SV.ptr p4])) ∧ some (SV.box p8 63 (SV.struct [SV.struct [SV.ptr p10, SV.ptr p11], SV.struct [SV.ptr p3, SV.ptr p4]])) = some
  (SV.box p8 63 (SV.struct [SV.struct [SV.ptr p10, SV.ptr p11], SV.struct [SV.ptr p3, SV.ptr p4]])) ∧ p12 z83))))
def vc7 (max : Int) (script : Sl) (w : World) (R : SV → World → Prop) : Prop := Ret Try.prog 20 [SV.int IntKind.i64 max, SV.struct [SV.ptr none, SV.ptr
  none]] w fun (r : SV) (w1 : World) => ∃ (p : Option Addr), ∃ (p_1 : Option Addr), ∃ (b : Bool), r = SV.tuple [SV.struct [SV.ptr p, SV.ptr p_1], SV.bool
  b] ∧ ∀ (b_1 : Nat), Br (!b) (∀ (w1_1 : World), Upd [] [b_1] w1 w1_1 → R (SV.bool false) w1_1) (∀ (w1_1 : World), Upd [] [b_1] w1 w1_1 → Ret Try.prog 20
  [SV.int IntKind.i64 64, SV.struct [SV.ptr none, SV.ptr none]] w1_1 fun (r : SV) (w1 : World) => ∃ (p_2 : Option Addr), ∃ (p_3 : Option Addr), ∃ (b : Bool),
  r = SV.tuple [SV.struct [SV.ptr p_2, SV.ptr p_3], SV.bool b] ∧ Keeps [b_1] w1_1 w1 ∧ ∀ (b_2 : Nat) (J : World → Prop), (∀ (w1 : World), (∀ (J : Option Addr
  → Option Addr → World → Prop), (∀ (p p_4 : Option Addr) (w1 : World), (∀ (b : Nat) (w1_2 : World), Upd [] [b] w1 w1_2 → ∀ (b_3 : Nat) (w1 : World), Upd
  [] [b_3] w1_2 w1 → (World.heap w1)[b_3]? = some (Obj.cells { toList := zerosOf (Ty.int IntKind.u8) 8262 } 5) → ∀ (b_4 : Nat) (w1_3 : World), Upd [] [b_4]
  w1 w1_3 → (World.heap w1_3)[b_4]? = some (Obj.cells { toList := SV.cells (SV.struct [SV.slice { ptr := none, len := 0, cap := 0 }, SV.slice { ptr := none, len := 0, cap := 0 }, SV.slice { ptr := none, len := 0, cap := 0 }, SV.slice { ptr := none, len := 0, cap := 0 }]) }
  62) → Off b_4 [b_1, b_2, b] → ∃ (I : Int → World → Prop), ∃ (M : Int → World → Nat), I 0 w1_3 ∧ ∀ (n : Int) (w1 : World), I n w1 → ∀ (J : World → Prop),
  (∀ (w1_4 : World), (∀ (J : World → Prop), (∀ (w1_5 : World), some (SV.box b_1 53 (SV.struct [SV.ptr p, SV.ptr p_4])) = some (SV.box b_1 53 (SV.struct [SV.ptr
  p, SV.ptr p_4])) ∧ some (SV.box b_2 53 (SV.struct [SV.ptr p_2, SV.ptr p_3])) = some (SV.box b_2 53 (SV.struct [SV.ptr p_2, SV.ptr p_3])) ∧ some (SV.box
  b 63 (SV.struct [SV.struct [SV.ptr p, SV.ptr p_4], SV.struct [SV.ptr p_2, SV.ptr p_3]])) = some (SV.box b 63 (SV.struct [SV.struct [SV.ptr p, SV.ptr p_4],
  SV.struct [SV.ptr p_2, SV.ptr p_3]])) ∧ I (wr IntKind.i64 (n + 1)) w1_5 ∧ M (wr IntKind.i64 (n + 1)) w1_5 < M n w1 → J w1_5) → Need (decide (0 ≤ n) && decide
  (n < (↑script.2 : Int)) && Option.isSome script.1) (∃ (n_1 : Int), World.cell? w1_4 (Sl.at script 5 (Int.toNat n)) = some (Value.int IntKind.i64 n_1) ∧
  ∃ (n_2 : Int), World.cell? w1_4 (Addr.add (Sl.at script 5 (Int.toNat n)) 1) = some (Value.int IntKind.i64 n_2) ∧ ∃ (n_3 : Int), World.cell? w1_4 (Addr.add
  (Sl.at script 5 (Int.toNat n)) 2) = some (Value.int IntKind.i64 n_3) ∧ ∃ (s : Sl), World.cell? w1_4 (Addr.add (Sl.at script 5 (Int.toNat n)) 3) = some (Sl.val
  s) ∧ ∃ (b_5 : Bool), World.cell? w1_4 (Addr.add (Sl.at script 5 (Int.toNat n)) 4) = some (Value.bool b_5) ∧ ∀ (b_6 : Nat), Need (decide (0 ≤ iand IntKind.i64
  n_2 1) && decide (iand IntKind.i64 n_2 1 < 2)) (Br (decide (iand IntKind.i64 n_2 1 = 0)) (tail7a n_1 b_6 w1_4 p p_4 b_4 b_1 b_2 b R p_2 p_3 J s b_3 n_3
  b_5) (Br (decide (iand IntKind.i64 n_2 1 = 1)) (tail7b n_1 b_6 w1_4 p_2 p_3 b_4 b_1 b_2 b R p p_4 J s b_3 n_3 b_5) True)))) → J w1_4) → Br (decide (n <
  (↑script.2 : Int))) (Br (decide (n < 120)) (some (SV.box b_1 53 (SV.struct [SV.ptr p, SV.ptr p_4])) = some (SV.box b_1 53 (SV.struct [SV.ptr p, SV.ptr p_4]))
  ∧ some (SV.box b_2 53 (SV.struct [SV.ptr p_2, SV.ptr p_3])) = some (SV.box b_2 53 (SV.struct [SV.ptr p_2, SV.ptr p_3])) ∧ some (SV.box b 63 (SV.struct [SV.struct
  [SV.ptr p, SV.ptr p_4], SV.struct [SV.ptr p_2, SV.ptr p_3]])) = some (SV.box b 63 (SV.struct [SV.struct [SV.ptr p, SV.ptr p_4], SV.struct [SV.ptr p_2, SV.ptr
  p_3]])) ∧ J w1) (Ret Try.prog 22 [SV.struct [SV.ptr p, SV.ptr p_4], SV.int IntKind.i64 4, SV.ptr (some { block := b_4, off := 0 })] w1 fun (r : SV) (w1_4
  : World) => ∃ (b_5 : Bool), r = SV.bool b_5 ∧ Keeps [b_1, b_2, b] w1 w1_4 ∧ Br b_5 (Ret Try.prog 22 [SV.struct [SV.ptr p, SV.ptr p_4], SV.int IntKind.i64
  2, SV.ptr (some { block := b_4, off := 0 })] w1_4 fun (r : SV) (w1 : World) => ∃ (b_6 : Bool), r = SV.bool b_6 ∧ Keeps [b_1, b_2, b] w1_4 w1 ∧ Br b_6 (Ret
  Try.prog 22 [SV.struct [SV.ptr p_2, SV.ptr p_3], SV.int IntKind.i64 4, SV.ptr (some { block := b_4, off := 0 })] w1 fun (r : SV) (w1_5 : World) => ∃ (b_7
  : Bool), r = SV.bool b_7 ∧ Keeps [b_1, b_2, b] w1 w1_5 ∧ Br b_7 (Ret Try.prog 23 [SV.ptr (some { block := b_4, off := 0 })] w1_5 fun (r : SV) (w1 : World)
  => ∃ (b_8 : Bool), r = SV.bool b_8 ∧ Keeps [b_1, b_2, b] w1_5 w1 ∧ Br b_8 (R (SV.bool !Option.isNone p_2) w1) (R (SV.bool false) w1)) (R (SV.bool false)
  w1_5)) (R (SV.bool false) w1)) (R (SV.bool false) w1_4))) (Ret Try.prog 22 [SV.struct [SV.ptr p, SV.ptr p_4], SV.int IntKind.i64 4, SV.ptr (some { block := b_4, off := 0 })]
  w1 fun (r : SV) (w1_4 : World) => ∃ (b_5 : Bool), r = SV.bool b_5 ∧ Keeps [b_1, b_2, b] w1 w1_4 ∧ Br b_5 (Ret Try.prog 22 [SV.struct [SV.ptr p, SV.ptr p_4],
  SV.int IntKind.i64 2, SV.ptr (some { block := b_4, off := 0 })] w1_4 fun (r : SV) (w1 : World) => ∃ (b_6 : Bool), r = SV.bool b_6 ∧ Keeps [b_1, b_2, b]
  w1_4 w1 ∧ Br b_6 (Ret Try.prog 22 [SV.struct [SV.ptr p_2, SV.ptr p_3], SV.int IntKind.i64 4, SV.ptr (some { block := b_4, off := 0 })] w1 fun (r : SV) (w1_5
  : World) => ∃ (b_7 : Bool), r = SV.bool b_7 ∧ Keeps [b_1, b_2, b] w1 w1_5 ∧ Br b_7 (Ret Try.prog 23 [SV.ptr (some { block := b_4, off := 0 })] w1_5 fun
  (r : SV) (w1 : World) => ∃ (b_8 : Bool), r = SV.bool b_8 ∧ Keeps [b_1, b_2, b] w1_5 w1 ∧ Br b_8 (R (SV.bool !Option.isNone p_2) w1) (R (SV.bool false) w1))
  (R (SV.bool false) w1_5)) (R (SV.bool false) w1)) (R (SV.bool false) w1_4))) → J p p_4 w1) → Br (Option.isNone p) (∀ (w1_2 : World), Upd [b_1] [] w1 w1_2
  → some (SV.box b_2 53 (SV.struct [SV.ptr p_2, SV.ptr p_3])) = some (SV.box b_2 53 (SV.struct [SV.ptr p_2, SV.ptr p_3])) ∧ (b_1, 53) = (b_1, 53) ∧ J p_2
  p_3 w1_2) (some (SV.box b_2 53 (SV.struct [SV.ptr p_2, SV.ptr p_3])) = some (SV.box b_2 53 (SV.struct [SV.ptr p_2, SV.ptr p_3])) ∧ (b_1, 53) = (b_1, 53)
  ∧ J p p_1 w1)) → J w1) → Br (!b) (∀ (w1_2 : World), Upd [] [b_2] w1 w1_2 → R (SV.bool false) w1_2) (Br (Option.isNone p_2) (∀ (w1_2 : World), Upd [] [b_2]
  w1 w1_2 → R (SV.bool false) w1_2) (∀ (w1_2 : World), Upd [] [b_2] w1 w1_2 → some (SV.box b_1 53 (SV.struct [SV.ptr p, SV.ptr p_1])) = some (SV.box b_1 53
  (SV.struct [SV.ptr p, SV.ptr p_1])) ∧ some (SV.box b_2 53 (SV.struct [SV.ptr p_2, SV.ptr p_3])) = some (SV.box b_2 53 (SV.struct [SV.ptr p_2, SV.ptr p_3]))
  ∧ J w1_2)))
theorem f7_of (max : Int) (script : Sl) (w : World) (R : SV → World → Prop) (hV : vc7 max script w R) : Ret Try.prog 7 [.int .i64 max, .slice script] w R :=
  have e : vc7 max script w R = fnVC X Try.f7 a1007 [.int .i64 max, .slice script] w R := by kernel_rfl
  fnVC_sound X_ok (n := a1007) (e ▸ hV) (by kernel_rfl) (by kernel_rfl) rfl rfl

def vc25 (buf : Sl) (data : Sl) (w : World) (R : SV → World → Prop) : Prop :=
  Copy 1 buf data [] w fun (w : World) =>
    ∃ (I : Int → World → Prop),
      ∃ (M : Int → World → Nat),
        I (↑data.2 : Int) w ∧
          ∀ (n : Int) (w1 : World),
            I n w1 →
              Br (decide (n < (↑buf.2 : Int)))
                (Need (decide (0 ≤ n) && decide (n < (↑buf.2 : Int)) && Option.isSome buf.1)
                  (Store w1 (Sl.at buf 1 (Int.toNat n)) (SV.cells (SV.int IntKind.u8 (wr IntKind.u8 (wr IntKind.i64 (203 - wr IntKind.i64 (5 * n)))))) [] fun (w1_1 : World) =>
                    I (wr IntKind.i64 (n + 1)) w1_1 ∧ M (wr IntKind.i64 (n + 1)) w1_1 < M n w1))
                (Need (decide (0 ≤ (↑data.2 : Int)) && decide ((↑data.2 : Int) ≤ (↑buf.3 : Int))) (R (SV.slice (Sl.sub buf 1 0 (Int.toNat (↑data.2 : Int)) buf.3)) w1))
theorem f25_of (buf : Sl) (data : Sl) (w : World) (R : SV → World → Prop) (hV : vc25 buf data w R) : Ret Try.prog 25 [.slice buf, .slice data] w R :=
  have e : vc25 buf data w R = fnVC X Try.f25 a25 [.slice buf, .slice data] w R := by kernel_rfl
  fnVC_sound X_ok (n := a25) (e ▸ hV) (by kernel_rfl) (by kernel_rfl) rfl rfl

def vc27 (buf : Sl) (data : Sl) (w : World) (R : SV → World → Prop) : Prop :=
  Need (decide (0 ≤ (↑data.2 : Int)) && decide ((↑data.2 : Int) ≤ (↑buf.3 : Int)))
    (Ret Try.prog 19 [SV.slice (Sl.sub buf 1 0 (Int.toNat (↑data.2 : Int)) buf.3), SV.slice data] w fun (r : SV) (w1 : World) =>
      ∃ (b : Bool),
        r = SV.bool b ∧
          Br (!b) (R (SV.bool false) w1)
            (∃ (I : Int → World → Prop),
              ∃ (M : Int → World → Nat),
                I (↑data.2 : Int) w1 ∧
                  ∀ (n : Int) (w1 : World),
                    I n w1 →
                      Br (decide (n < (↑buf.2 : Int)))
                        (Need (decide (0 ≤ n) && decide (n < (↑buf.2 : Int)) && Option.isSome buf.1)
                          (∃ (n_1 : Int),
                            World.cell? w1 (Sl.at buf 1 (Int.toNat n)) = some (Value.int IntKind.u8 n_1) ∧
                              Br (n_1 != wr IntKind.u8 (wr IntKind.i64 (203 - wr IntKind.i64 (5 * n)))) (R (SV.bool false) w1)
                                (I (wr IntKind.i64 (n + 1)) w1 ∧ M (wr IntKind.i64 (n + 1)) w1 < M n w1)))
                        (R (SV.bool true) w1)))
theorem f27_of (buf : Sl) (data : Sl) (w : World) (R : SV → World → Prop) (hV : vc27 buf data w R) : Ret Try.prog 27 [.slice buf, .slice data] w R :=
  have e : vc27 buf data w R = fnVC X Try.f27 a27 [.slice buf, .slice data] w R := by kernel_rfl
  fnVC_sound X_ok (n := a27) (e ▸ hV) (by kernel_rfl) (by kernel_rfl) rfl rfl

end Go.Vc.S11
