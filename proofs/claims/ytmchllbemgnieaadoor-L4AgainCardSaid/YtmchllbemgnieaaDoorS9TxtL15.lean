import Derived.Test.YtmchllbemgnieaaDoorG2
import Derived.Test.YtmchllbemgnieaaDoorG3
import Derived.KernelRfl
open Go Go.Vc Go.Vc.S9 Go.Proofs
set_option maxRecDepth 100000
set_option linter.unusedVariables false
namespace Go.Vc.S9
def tail15 (p0 : Sl) (p1 : World) (p2 : Nat) (p3 : Nat) (p4 : Nat) (p5 : Nat) (p6 : Nat) (p7 : Nat) (p8 : Sl) (p9 : Nat) (p10 : Sl) (p11 : SV → World →
  Prop) (p12 : Int) (p13 : Nat → Int) (p14 : Int) (p15 : Nat → Int) (p16 : World → Prop) (p17 : Int) (p18 : Sl) (p19 : Int) (p20 : Int) (p21 : Bool) (p22
  : Sl) (p23 : Int) (p24 : Int) (p25 : Bool) (p26 : Sl) (p27 : Int) (p28 : Int) (p29 : Int) (p30 : Int) (p31 : Int) (p32 : Int) (p33 : Int) (p34 : Sl) (p35
  : Int) (p36 : Int) (p37 : Int) (p38 : Int) (p39 : Int) (p40 : Int) (p41 : Int) (p42 : Sl) (p43 : Sl) (p44 : Int) (p45 : Int) (p46 : Int) (p47 : Int) (p48
  : Nat) : Prop := Ret Tryd.prog 33 [SV.slice p0] p1 fun (z0 : SV) (z1 : World) => ∃ (z2 : Sl), ∃ (z3 : Int), z0 = SV.tuple [SV.slice z2, SV.int IntKind.i64
  z3] ∧ Keeps [p2, p3, p4, p5, p6, p7] p1 z1 ∧ Ret Tryd.prog 40 [SV.slice p8] z1 fun (z4 : SV) (z5 : World) => ∃ (z6 : Sl), z4 = SV.slice z6 ∧ Keeps [p2,
  p3, p4, p5, p6, p7] z1 z5 ∧ Ret Tryd.prog 46 [SV.slice z6] z5 fun (z7 : SV) (z8 : World) => ∃ (z9 : Sl), ∃ (z10 : Int), z7 = SV.tuple [SV.slice z9, SV.int
  IntKind.i64 z10] ∧ Keeps [p2, p3, p4, p5, p6, p7] z5 z8 ∧ ∀ (z11 : World → Prop), (∀ (z12 : World), (Ret Tryd.prog 49 [SV.ptr (some { block := p9, off := 0 }),
  SV.slice p10] z12 fun (z13 : SV) (z14 : World) => z13 = SV.tuple [] ∧ Keeps [p2, p3, p4, p5, p6, p7] z12 z14 ∧ Ret Tryd.prog 49 [SV.ptr (some { block := p9, off := 0 }),
  SV.slice z2] z14 fun (z15 : SV) (z16 : World) => z15 = SV.tuple [] ∧ Keeps [p2, p3, p4, p5, p6, p7] z14 z16 ∧ ∀ (z17 : World → Prop), (∀ (z18 : World),
  (Ret Tryd.prog 51 [SV.ptr (some { block := p9, off := 0 })] z18 fun (z19 : SV) (z20 : World) => ∃ (z21 : Bool), z19 = SV.bool z21 ∧ Keeps [p2, p3, p4, p5,
  p6, p7] z18 z20 ∧ Br (!z21) (p11 (SV.bool false) z20) (some (SV.box p2 27 (SV.struct [SV.int IntKind.i64 p12, SV.arr IntKind.u8 16 p13])) = some (SV.box
  p2 27 (SV.struct [SV.int IntKind.i64 p12, SV.arr IntKind.u8 16 p13])) ∧ some (SV.box p3 27 (SV.struct [SV.int IntKind.i64 p14, SV.arr IntKind.u8 16 p15]))
  = some (SV.box p3 27 (SV.struct [SV.int IntKind.i64 p14, SV.arr IntKind.u8 16 p15])) ∧ p16 z20)) → z17 z18) → Br (decide (p17 < (↑p18.2 : Int))) (Br (decide
  ((↑p0.2 : Int) > 0)) (Need (decide (0 ≤ p17) && decide (p17 < (↑p18.2 : Int)) && Option.isSome p18.1) (∃ (z22 : Int), World.cell? z16 (Addr.add (Sl.at p18
  2 (Int.toNat p17)) 0) = some (Value.int IntKind.i64 z22) ∧ Ret Tryd.prog 50 [SV.int IntKind.i64 z22, SV.int IntKind.i64 (↑p0.2 : Int)] z16 fun (z23 : SV)
  (z24 : World) => ∃ (z25 : Int), z23 = SV.int IntKind.i64 z25 ∧ Keeps [p2, p3, p4, p5, p6, p7] z16 z24 ∧ Need (decide (0 ≤ p17) && decide (p17 < (↑p18.2
  : Int)) && Option.isSome p18.1) (∃ (z26 : Int), World.cell? z24 (Addr.add (Sl.at p18 2 (Int.toNat p17)) 1) = some (Value.int IntKind.i64 z26) ∧ Need (decide
  (0 ≤ z25) && decide (z25 < (↑p0.2 : Int)) && Option.isSome p0.1) (Store z24 (Sl.at p0 1 (Int.toNat z25)) (SV.cells (SV.int IntKind.u8 (wr IntKind.u8 z26)))
  [p2, p3, p4, p5, p6, p7] fun (z27 : World) => Need (decide (0 ≤ p17) && decide (p17 < (↑p18.2 : Int)) && Option.isSome p18.1) (∃ (z28 : Int), World.cell?
  z27 (Addr.add (Sl.at p18 2 (Int.toNat p17)) 1) = some (Value.int IntKind.i64 z28) ∧ Need (decide (0 ≤ z25) && decide (z25 < (↑p8.2 : Int)) && Option.isSome
  p8.1) (Store z27 (Sl.at p8 1 (Int.toNat z25)) (SV.cells (SV.int IntKind.u8 (wr IntKind.u8 z28))) [p2, p3, p4, p5, p6, p7] fun (z29 : World) => some (SV.box
  p2 27 (SV.struct [SV.int IntKind.i64 p12, SV.arr IntKind.u8 16 p13])) = some (SV.box p2 27 (SV.struct [SV.int IntKind.i64 p12, SV.arr IntKind.u8 16 p13]))
  ∧ some (SV.box p3 27 (SV.struct [SV.int IntKind.i64 p14, SV.arr IntKind.u8 16 p15])) = some (SV.box p3 27 (SV.struct [SV.int IntKind.i64 p14, SV.arr IntKind.u8
  16 p15])) ∧ some (SV.box p4 30 (SV.struct [SV.int IntKind.i64 p19, SV.int IntKind.i64 p20, SV.bool p21, SV.slice p22])) = some (SV.box p4 30 (SV.struct
  [SV.int IntKind.i64 p19, SV.int IntKind.i64 p20, SV.bool p21, SV.slice p22])) ∧ some (SV.box p5 30 (SV.struct [SV.int IntKind.i64 p23, SV.int IntKind.i64
  p24, SV.bool p25, SV.slice p26])) = some (SV.box p5 30 (SV.struct [SV.int IntKind.i64 p23, SV.int IntKind.i64 p24, SV.bool p25, SV.slice p26])) ∧ some (SV.box
  p6 45 (SV.struct [SV.int IntKind.i64 p27, SV.int IntKind.i64 p28, SV.int IntKind.i64 p29, SV.int IntKind.i64 p30, SV.int IntKind.i64 p31, SV.int IntKind.i64
  p32, SV.int IntKind.i64 p33, SV.slice p10, SV.slice p34])) = some (SV.box p6 45 (SV.struct [SV.int IntKind.i64 p27, SV.int IntKind.i64 p28, SV.int IntKind.i64
  p29, SV.int IntKind.i64 p30, SV.int IntKind.i64 p31, SV.int IntKind.i64 p32, SV.int IntKind.i64 p33, SV.slice p10, SV.slice p34])) ∧ some (SV.box p7 45
  (SV.struct [SV.int IntKind.i64 p35, SV.int IntKind.i64 p36, SV.int IntKind.i64 p37, SV.int IntKind.i64 p38, SV.int IntKind.i64 p39, SV.int IntKind.i64 p40,
  SV.int IntKind.i64 p41, SV.slice p42, SV.slice p43])) = some (SV.box p7 45 (SV.struct [SV.int IntKind.i64 p35, SV.int IntKind.i64 p36, SV.int IntKind.i64
  p37, SV.int IntKind.i64 p38, SV.int IntKind.i64 p39, SV.int IntKind.i64 p40, SV.int IntKind.i64 p41, SV.slice p42, SV.slice p43])) ∧ z17 z29)))))) (some
  (SV.box p2 27 (SV.struct [SV.int IntKind.i64 p12, SV.arr IntKind.u8 16 p13])) = some (SV.box p2 27 (SV.struct [SV.int IntKind.i64 p12, SV.arr IntKind.u8
  16 p13])) ∧ some (SV.box p3 27 (SV.struct [SV.int IntKind.i64 p14, SV.arr IntKind.u8 16 p15])) = some (SV.box p3 27 (SV.struct [SV.int IntKind.i64 p14,
  SV.arr IntKind.u8 16 p15])) ∧ some (SV.box p4 30 (SV.struct [SV.int IntKind.i64 p19, SV.int IntKind.i64 p20, SV.bool p21, SV.slice p22])) = some (SV.box
  p4 30 (SV.struct [SV.int IntKind.i64 p19, SV.int IntKind.i64 p20, SV.bool p21, SV.slice p22])) ∧ some (SV.box p5 30 (SV.struct [SV.int IntKind.i64 p23,
  SV.int IntKind.i64 p24, SV.bool p25, SV.slice p26])) = some (SV.box p5 30 (SV.struct [SV.int IntKind.i64 p23, SV.int IntKind.i64 p24, SV.bool p25, SV.slice
  p26])) ∧ some (SV.box p6 45 (SV.struct [SV.int IntKind.i64 p27, SV.int IntKind.i64 p28, SV.int IntKind.i64 p29, SV.int IntKind.i64 p30, SV.int IntKind.i64
  p31, SV.int IntKind.i64 p32, SV.int IntKind.i64 p33, SV.slice p10, SV.slice p34])) = some (SV.box p6 45 (SV.struct [SV.int IntKind.i64 p27, SV.int IntKind.i64
  p28, SV.int IntKind.i64 p29, SV.int IntKind.i64 p30, SV.int IntKind.i64 p31, SV.int IntKind.i64 p32, SV.int IntKind.i64 p33, SV.slice p10, SV.slice p34]))
  ∧ some (SV.box p7 45 (SV.struct [SV.int IntKind.i64 p35, SV.int IntKind.i64 p36, SV.int IntKind.i64 p37, SV.int IntKind.i64 p38, SV.int IntKind.i64 p39,
  SV.int IntKind.i64 p40, SV.int IntKind.i64 p41, SV.slice p42, SV.slice p43])) = some (SV.box p7 45 (SV.struct [SV.int IntKind.i64 p35, SV.int IntKind.i64
  p36, SV.int IntKind.i64 p37, SV.int IntKind.i64 p38, SV.int IntKind.i64 p39, SV.int IntKind.i64 p40, SV.int IntKind.i64 p41, SV.slice p42, SV.slice p43]))
  ∧ z17 z16)) (some (SV.box p2 27 (SV.struct [SV.int IntKind.i64 p12, SV.arr IntKind.u8 16 p13])) = some (SV.box p2 27 (SV.struct [SV.int IntKind.i64 p12,
  SV.arr IntKind.u8 16 p13])) ∧ some (SV.box p3 27 (SV.struct [SV.int IntKind.i64 p14, SV.arr IntKind.u8 16 p15])) = some (SV.box p3 27 (SV.struct [SV.int
  IntKind.i64 p14, SV.arr IntKind.u8 16 p15])) ∧ some (SV.box p4 30 (SV.struct [SV.int IntKind.i64 p19, SV.int IntKind.i64 p20, SV.bool p21, SV.slice p22]))
  = some (SV.box p4 30 (SV.struct [SV.int IntKind.i64 p19, SV.int IntKind.i64 p20, SV.bool p21, SV.slice p22])) ∧ some (SV.box p5 30 (SV.struct [SV.int IntKind.i64
  p23, SV.int IntKind.i64 p24, SV.bool p25, SV.slice p26])) = some (SV.box p5 30 (SV.struct [SV.int IntKind.i64 p23, SV.int IntKind.i64 p24, SV.bool p25,
  SV.slice p26])) ∧ some (SV.box p6 45 (SV.struct [SV.int IntKind.i64 p27, SV.int IntKind.i64 p28, SV.int IntKind.i64 p29, SV.int IntKind.i64 p30, SV.int
  IntKind.i64 p31, SV.int IntKind.i64 p32, SV.int IntKind.i64 p33, SV.slice p10, SV.slice p34])) = some (SV.box p6 45 (SV.struct [SV.int IntKind.i64 p27,
  SV.int IntKind.i64 p28, SV.int IntKind.i64 p29, SV.int IntKind.i64 p30, SV.int IntKind.i64 p31, SV.int IntKind.i64 p32, SV.int IntKind.i64 p33, SV.slice
  p10, SV.slice p34])) ∧ some (SV.box p7 45 (SV.struct [SV.int IntKind.i64 p35, SV.int IntKind.i64 p36, SV.int IntKind.i64 p37, SV.int IntKind.i64 p38, SV.int
  IntKind.i64 p39, SV.int IntKind.i64 p40, SV.int IntKind.i64 p41, SV.slice p42, SV.slice p43])) = some (SV.box p7 45 (SV.struct [SV.int IntKind.i64 p35,
  SV.int IntKind.i64 p36, SV.int IntKind.i64 p37, SV.int IntKind.i64 p38, SV.int IntKind.i64 p39, SV.int IntKind.i64 p40, SV.int IntKind.i64 p41, SV.slice
  p42, SV.slice p43])) ∧ z17 z16)) → z11 z12) → Ret Tryd.prog 20 [SV.int IntKind.i64 p44] z8 fun (z30 : SV) (z31 : World) => ∃ (z32 : Int), z30 = SV.int IntKind.i64
  z32 ∧ Keeps [p2, p3, p4, p5, p6, p7] z8 z31 ∧ Br (z32 != p45) (p11 (SV.bool false) z31) (Ret Tryd.prog 23 [SV.struct [SV.int IntKind.i64 p19, SV.int IntKind.i64
  p20, SV.bool p21, SV.slice p22], SV.struct [SV.int IntKind.i64 p23, SV.int IntKind.i64 p24, SV.bool p25, SV.slice p26]] z31 fun (z33 : SV) (z34 : World)
  => ∃ (z35 : Bool), z33 = SV.bool z35 ∧ Keeps [p2, p3, p4, p5, p6, p7] z31 z34 ∧ Br (!z35) (p11 (SV.bool false) z34) (Ret Tryd.prog 20 [SV.int IntKind.i64
  p46] z34 fun (z36 : SV) (z37 : World) => ∃ (z38 : Int), z36 = SV.int IntKind.i64 z38 ∧ Keeps [p2, p3, p4, p5, p6, p7] z34 z37 ∧ Br (z38 != p47) (p11 (SV.bool
  false) z37) (Ret Tryd.prog 28 [SV.struct [SV.int IntKind.i64 p27, SV.int IntKind.i64 p28, SV.int IntKind.i64 p29, SV.int IntKind.i64 p30, SV.int IntKind.i64
  p31, SV.int IntKind.i64 p32, SV.int IntKind.i64 p33, SV.slice p10, SV.slice p34], SV.struct [SV.int IntKind.i64 p35, SV.int IntKind.i64 p36, SV.int IntKind.i64
  p37, SV.int IntKind.i64 p38, SV.int IntKind.i64 p39, SV.int IntKind.i64 p40, SV.int IntKind.i64 p41, SV.slice p42, SV.slice p43]] z37 fun (z39 : SV) (z40
  : World) => ∃ (z41 : Bool), z39 = SV.bool z41 ∧ Keeps [p2, p3, p4, p5, p6, p7] z37 z40 ∧ Br (!z41) (p11 (SV.bool false) z40) (Ret Tryd.prog 20 [SV.int IntKind.i64
  z3] z40 fun (z42 : SV) (z43 : World) => ∃ (z44 : Int), z42 = SV.int IntKind.i64 z44 ∧ Keeps [p2, p3, p4, p5, p6, p7] z40 z43 ∧ Br (z44 != z10) (p11 (SV.bool
  false) z43) (Ret Tryd.prog 47 [SV.slice z2, SV.slice z9] z43 fun (z45 : SV) (z46 : World) => ∃ (z47 : Bool), z45 = SV.bool z47 ∧ Keeps [p2, p3, p4, p5,
  p6, p7] z43 z46 ∧ Br (!z47) (p11 (SV.bool false) z46) (Ret Tryd.prog 48 [SV.ptr (some { block := p48, off := 0 }), SV.slice p8] z46 fun (z48 : SV) (z49
  : World) => ∃ (z50 : Bool), z48 = SV.bool z50 ∧ Keeps [p2, p3, p4, p5, p6, p7] z46 z49 ∧ Br (!z50) (p11 (SV.bool false) z49) (some (SV.box p2 27 (SV.struct
  [SV.int IntKind.i64 p12, SV.arr IntKind.u8 16 p13])) = some (SV.box p2 27 (SV.struct [SV.int IntKind.i64 p12, SV.arr IntKind.u8 16 p13])) ∧ some (SV.box
  p3 27 (SV.struct [SV.int IntKind.i64 p14, SV.arr IntKind.u8 16 p15])) = some (SV.box p3 27 (SV.struct [SV.int IntKind.i64 p14, SV.arr IntKind.u8 16 p15]))
  ∧ some (SV.box p4 30 (SV.struct [SV.int IntKind.i64 p19, SV.int IntKind.i64 p20, SV.bool p21, SV.slice p22])) = some (SV.box p4 30 (SV.struct [SV.int IntKind.i64
  p19, SV.int IntKind.i64 p20, SV.bool p21, SV.slice p22])) ∧ some (SV.box p5 30 (SV.struct [SV.int IntKind.i64 p23, SV.int IntKind.i64 p24, SV.bool p25,
  SV.slice p26])) = some (SV.box p5 30 (SV.struct [SV.int IntKind.i64 p23, SV.int IntKind.i64 p24, SV.bool p25, SV.slice p26])) ∧ some (SV.box p6 45 (SV.struct
  [SV.int IntKind.i64 p27, SV.int IntKind.i64 p28, SV.int IntKind.i64 p29, SV.int IntKind.i64 p30, SV.int IntKind.i64 p31, SV.int IntKind.i64 p32, SV.int
  IntKind.i64 p33, SV.slice p10, SV.slice p34])) = some (SV.box p6 45 (SV.struct [SV.int IntKind.i64 p27, SV.int IntKind.i64 p28, SV.int IntKind.i64 p29,
  SV.int IntKind.i64 p30, SV.int IntKind.i64 p31, SV.int IntKind.i64 p32, SV.int IntKind.i64 p33, SV.slice p10, SV.slice p34])) ∧ some (SV.box p7 45 (SV.struct
  [SV.int IntKind.i64 p35, SV.int IntKind.i64 p36, SV.int IntKind.i64 p37, SV.int IntKind.i64 p38, SV.int IntKind.i64 p39, SV.int IntKind.i64 p40, SV.int
  IntKind.i64 p41, SV.slice p42, SV.slice p43])) = some (SV.box p7 45 (SV.struct [SV.int IntKind.i64 p35, SV.int IntKind.i64 p36, SV.int IntKind.i64 p37,
  SV.int IntKind.i64 p38, SV.int IntKind.i64 p39, SV.int IntKind.i64 p40, SV.int IntKind.i64 p41, SV.slice p42, SV.slice p43])) ∧ z11 z49)))))))
def mid15 (p0 : Int) (p1 : Nat → Int) (p2 : Int) (p3 : Nat → Int) (p4 : Sl) (p5 : World) (p6 : Nat) (p7 : Nat) (p8 : Nat) (p9 : Nat) (p10 : Sl) (p11 : Nat)
  (p12 : SV → World → Prop) (p13 : World → Prop) (p14 : Int) (p15 : Sl) (p16 : Int) (p17 : Int) (p18 : Bool) (p19 : Sl) (p20 : Int) (p21 : Int) (p22 : Bool)
  (p23 : Sl) (p24 : Int) (p25 : Int) (p26 : Nat) : Prop := Ret Tryd.prog 27 [SV.struct [SV.int IntKind.i64 p0, SV.arr IntKind.u8 16 p1], SV.struct [SV.int
  IntKind.i64 p2, SV.arr IntKind.u8 16 p3], SV.slice p4] p5 fun (z0 : SV) (z1 : World) => ∃ (z2 : Int), ∃ (z3 : Int), ∃ (z4 : Int), ∃ (z5 : Int), ∃ (z6 :
  Int), ∃ (z7 : Int), ∃ (z8 : Int), ∃ (z9 : Sl), ∃ (z10 : Sl), ∃ (z11 : Int), z0 = SV.tuple [SV.struct [SV.int IntKind.i64 z2, SV.int IntKind.i64 z3, SV.int
  IntKind.i64 z4, SV.int IntKind.i64 z5, SV.int IntKind.i64 z6, SV.int IntKind.i64 z7, SV.int IntKind.i64 z8, SV.slice z9, SV.slice z10], SV.int IntKind.i64
  z11] ∧ Keeps [p6, p7, p8, p9] p5 z1 ∧ ∀ (z12 : Nat), (∀ (z13 : World), Upd [] [z12] z1 z13 → Ret Tryd.prog 40 [SV.slice p10] z13 fun (z14 : SV) (z15 : World)
  => ∃ (z16 : Sl), z14 = SV.slice z16 ∧ Keeps [p6, p7, p8, p9, z12] z13 z15 ∧ Upd [] [] z1 z15 ∧ (Ret Tryd.prog 45 [SV.struct [SV.int IntKind.i64 p0, SV.arr
  IntKind.u8 16 p1], SV.struct [SV.int IntKind.i64 p2, SV.arr IntKind.u8 16 p3], SV.slice z16] z15 fun (z17 : SV) (z18 : World) => ∃ (z19 : Int), ∃ (z20 :
  Int), ∃ (z21 : Int), ∃ (z22 : Int), ∃ (z23 : Int), ∃ (z24 : Int), ∃ (z25 : Int), ∃ (z26 : Sl), ∃ (z27 : Sl), ∃ (z28 : Int), z17 = SV.tuple [SV.struct [SV.int
  IntKind.i64 z19, SV.int IntKind.i64 z20, SV.int IntKind.i64 z21, SV.int IntKind.i64 z22, SV.int IntKind.i64 z23, SV.int IntKind.i64 z24, SV.int IntKind.i64
  z25, SV.slice z26, SV.slice z27], SV.int IntKind.i64 z28] ∧ Keeps [p6, p7, p8, p9, z12] z15 z18 ∧ ∀ (z29 : Nat), Upd [] [] z1 z18 ∧ ∀ (z30 : World), Upd
  [] [z29] z18 z30 → tail15 p4 z30 p6 p7 p8 p9 z12 z29 p10 p11 z9 p12 p0 p1 p2 p3 p13 p14 p15 p16 p17 p18 p19 p20 p21 p22 p23 z2 z3 z4 z5 z6 z7 z8 z10 z19
  z20 z21 z22 z23 z24 z25 z26 z27 p24 p25 z11 z28 p26) ∧ ∀ (z31 : Nat), Upd [] [] z1 z15 ∧ ∀ (z32 : World), Upd [] [z31] z15 z32 → Ret Tryd.prog 45 [SV.struct
  [SV.int IntKind.i64 p0, SV.arr IntKind.u8 16 p1], SV.struct [SV.int IntKind.i64 p2, SV.arr IntKind.u8 16 p3], SV.slice z16] z32 fun (z33 : SV) (z34 : World)
  => ∃ (z35 : Int), ∃ (z36 : Int), ∃ (z37 : Int), ∃ (z38 : Int), ∃ (z39 : Int), ∃ (z40 : Int), ∃ (z41 : Int), ∃ (z42 : Sl), ∃ (z43 : Sl), ∃ (z44 : Int), z33
  = SV.tuple [SV.struct [SV.int IntKind.i64 z35, SV.int IntKind.i64 z36, SV.int IntKind.i64 z37, SV.int IntKind.i64 z38, SV.int IntKind.i64 z39, SV.int IntKind.i64
  z40, SV.int IntKind.i64 z41, SV.slice z42, SV.slice z43], SV.int IntKind.i64 z44] ∧ Keeps [p6, p7, p8, p9, z12, z31] z32 z34 ∧ ∀ (z45 : World), Upd [z31]
  [] z34 z45 → tail15 p4 z45 p6 p7 p8 p9 z12 z31 p10 p11 z9 p12 p0 p1 p2 p3 p13 p14 p15 p16 p17 p18 p19 p20 p21 p22 p23 z2 z3 z4 z5 z6 z7 z8 z10 z35 z36 z37
  z38 z39 z40 z41 z42 z43 p24 p25 z11 z44 p26) ∧ ∀ (z46 : Nat), Upd [] [] z1 z1 ∧ ∀ (z47 : World), Upd [] [z46, z12] z1 z47 → Ret Tryd.prog 40 [SV.slice p10]
  z47 fun (z48 : SV) (z49 : World) => ∃ (z50 : Sl), z48 = SV.slice z50 ∧ Keeps [p6, p7, p8, p9, z12, z46] z47 z49 ∧ Upd [] [] z1 z49 ∧ Ret Tryd.prog 45 [SV.struct
  [SV.int IntKind.i64 p0, SV.arr IntKind.u8 16 p1], SV.struct [SV.int IntKind.i64 p2, SV.arr IntKind.u8 16 p3], SV.slice z50] z49 fun (z51 : SV) (z52 : World)
  => ∃ (z53 : Int), ∃ (z54 : Int), ∃ (z55 : Int), ∃ (z56 : Int), ∃ (z57 : Int), ∃ (z58 : Int), ∃ (z59 : Int), ∃ (z60 : Sl), ∃ (z61 : Sl), ∃ (z62 : Int), z51
  = SV.tuple [SV.struct [SV.int IntKind.i64 z53, SV.int IntKind.i64 z54, SV.int IntKind.i64 z55, SV.int IntKind.i64 z56, SV.int IntKind.i64 z57, SV.int IntKind.i64
  z58, SV.int IntKind.i64 z59, SV.slice z60, SV.slice z61], SV.int IntKind.i64 z62] ∧ Keeps [p6, p7, p8, p9, z12, z46] z49 z52 ∧ ∀ (z63 : World), Upd [z46]
  [] z52 z63 → tail15 p4 z63 p6 p7 p8 p9 z12 z46 p10 p11 z9 p12 p0 p1 p2 p3 p13 p14 p15 p16 p17 p18 p19 p20 p21 p22 p23 z2 z3 z4 z5 z6 z7 z8 z10 z53 z54 z55
  z56 z57 z58 z59 z60 z61 p24 p25 z11 z62 p26
def vc15 (src_0 : Int) (src_1 : Nat → Int) (dst_0 : Int) (dst_1 : Nat → Int) (b : Sl) (turns : Sl) (w : World) (R : SV → World → Prop) : Prop := ∀ (b_1
  b_2 : Nat) (w1 : World), Upd [] [b_2, b_1] w w1 → Ret Tryd.prog 18 [] w1 fun (r : SV) (w1_1 : World) => ∃ (b_3 : Bool), r = SV.bool b_3 ∧ Keeps [b_1, b_2]
  w1 w1_1 ∧ Br (!b_3) (R (SV.bool false) w1_1) (Ret Tryd.prog 40 [SV.slice b] w1_1 fun (r : SV) (w1 : World) => ∃ (s : Sl), r = SV.slice s ∧ Keeps [b_1, b_2]
  w1_1 w1 ∧ ∀ (b : Nat) (w1_2 : World), Upd [] [b] w1 w1_2 → (World.heap w1_2)[b]? = some (Obj.cells { toList := SV.cells (SV.struct [SV.slice { ptr := none, len := 0, cap := 0 }, SV.int IntKind.i64 0]) }
  76) → Off b [b_1, b_2] → Ret Tryd.prog 43 [SV.ptr (some { block := b, off := 0 }), SV.slice s] w1_2 fun (r : SV) (w1 : World) => ∃ (s_1 : Sl), r = SV.slice
  s_1 ∧ Keeps [b_1, b_2] w1_2 w1 ∧ ∀ (b_4 : Nat) (w1_3 : World), Upd [] [b_4] w1 w1_3 → (World.heap w1_3)[b_4]? = some (Obj.cells { toList := SV.cells (SV.struct [SV.slice { ptr := none, len := 0, cap := 0 }, SV.slice { ptr := none, len := 0, cap := 0 }]) }
  80) → Off b_4 [b_1, b_2] → ∃ (I : Int → World → Prop), ∃ (M : Int → World → Nat), I 0 w1_3 ∧ ∀ (n : Int) (w1 : World), I n w1 → ∀ (J : World → Prop), (∀
  (w1_4 : World), (∀ (J : World → Prop), (∀ (w1_5 : World), some (SV.box b_1 27 (SV.struct [SV.int IntKind.i64 src_0, SV.arr IntKind.u8 16 src_1])) = some
  (SV.box b_1 27 (SV.struct [SV.int IntKind.i64 src_0, SV.arr IntKind.u8 16 src_1])) ∧ some (SV.box b_2 27 (SV.struct [SV.int IntKind.i64 dst_0, SV.arr IntKind.u8
  16 dst_1])) = some (SV.box b_2 27 (SV.struct [SV.int IntKind.i64 dst_0, SV.arr IntKind.u8 16 dst_1])) ∧ I (wr IntKind.i64 (n + 1)) w1_5 ∧ M (wr IntKind.i64
  (n + 1)) w1_5 < M n w1 → J w1_5) → Ret Tryd.prog 21 [SV.struct [SV.int IntKind.i64 src_0, SV.arr IntKind.u8 16 src_1], SV.struct [SV.int IntKind.i64 dst_0,
  SV.arr IntKind.u8 16 dst_1], SV.slice s_1] w1_4 fun (r : SV) (w1 : World) => ∃ (n_1 : Int), ∃ (n_2 : Int), ∃ (b_5 : Bool), ∃ (s_2 : Sl), ∃ (n_3 : Int),
  r = SV.tuple [SV.struct [SV.int IntKind.i64 n_1, SV.int IntKind.i64 n_2, SV.bool b_5, SV.slice s_2], SV.int IntKind.i64 n_3] ∧ Keeps [b_1, b_2] w1_4 w1
  ∧ ∀ (b_6 : Nat), (∀ (w1_5 : World), Upd [] [b_6] w1 w1_5 → Ret Tryd.prog 40 [SV.slice s] w1_5 fun (r : SV) (w1_6 : World) => ∃ (s_3 : Sl), r = SV.slice
  s_3 ∧ Keeps [b_1, b_2, b_6] w1_5 w1_6 ∧ Upd [] [] w1 w1_6 ∧ (Ret Tryd.prog 44 [SV.struct [SV.int IntKind.i64 src_0, SV.arr IntKind.u8 16 src_1], SV.struct
  [SV.int IntKind.i64 dst_0, SV.arr IntKind.u8 16 dst_1], SV.slice s_3] w1_6 fun (r : SV) (w1_7 : World) => ∃ (n_4 : Int), ∃ (n_5 : Int), ∃ (b_7 : Bool),
  ∃ (s_4 : Sl), ∃ (n_6 : Int), r = SV.tuple [SV.struct [SV.int IntKind.i64 n_4, SV.int IntKind.i64 n_5, SV.bool b_7, SV.slice s_4], SV.int IntKind.i64 n_6]
  ∧ Keeps [b_1, b_2, b_6] w1_6 w1_7 ∧ ∀ (b_8 : Nat), Upd [] [] w1 w1_7 ∧ ∀ (w1 : World), Upd [] [b_8] w1_7 w1 → mid15 src_0 src_1 dst_0 dst_1 s_1 w1 b_1 b_2
  b_6 b_8 s b_4 R J n turns n_1 n_2 b_5 s_2 n_4 n_5 b_7 s_4 n_3 n_6 b) ∧ ∀ (b_7 : Nat), Upd [] [] w1 w1_6 ∧ ∀ (w1 : World), Upd [] [b_7] w1_6 w1 → Ret Tryd.prog
  44 [SV.struct [SV.int IntKind.i64 src_0, SV.arr IntKind.u8 16 src_1], SV.struct [SV.int IntKind.i64 dst_0, SV.arr IntKind.u8 16 dst_1], SV.slice s_3] w1
  fun (r : SV) (w1_7 : World) => ∃ (n_4 : Int), ∃ (n_5 : Int), ∃ (b_8 : Bool), ∃ (s_4 : Sl), ∃ (n_6 : Int), r = SV.tuple [SV.struct [SV.int IntKind.i64 n_4,
  SV.int IntKind.i64 n_5, SV.bool b_8, SV.slice s_4], SV.int IntKind.i64 n_6] ∧ Keeps [b_1, b_2, b_6, b_7] w1 w1_7 ∧ ∀ (w1 : World), Upd [b_7] [] w1_7 w1
  → mid15 src_0 src_1 dst_0 dst_1 s_1 w1 b_1 b_2 b_6 b_7 s b_4 R J n turns n_1 n_2 b_5 s_2 n_4 n_5 b_8 s_4 n_3 n_6 b) ∧ ∀ (b_7 : Nat), Upd [] [] w1 w1 ∧ ∀
  (w1_5 : World), Upd [] [b_7, b_6] w1 w1_5 → Ret Tryd.prog 40 [SV.slice s] w1_5 fun (r : SV) (w1_6 : World) => ∃ (s_3 : Sl), r = SV.slice s_3 ∧ Keeps [b_1,
  b_2, b_6, b_7] w1_5 w1_6 ∧ Upd [] [] w1 w1_6 ∧ Ret Tryd.prog 44 [SV.struct [SV.int IntKind.i64 src_0, SV.arr IntKind.u8 16 src_1], SV.struct [SV.int IntKind.i64
  dst_0, SV.arr IntKind.u8 16 dst_1], SV.slice s_3] w1_6 fun (r : SV) (w1 : World) => ∃ (n_4 : Int), ∃ (n_5 : Int), ∃ (b_8 : Bool), ∃ (s_4 : Sl), ∃ (n_6 :
  Int), r = SV.tuple [SV.struct [SV.int IntKind.i64 n_4, SV.int IntKind.i64 n_5, SV.bool b_8, SV.slice s_4], SV.int IntKind.i64 n_6] ∧ Keeps [b_1, b_2, b_6,
  b_7] w1_6 w1 ∧ ∀ (w1_7 : World), Upd [b_7] [] w1 w1_7 → mid15 src_0 src_1 dst_0 dst_1 s_1 w1_7 b_1 b_2 b_6 b_7 s b_4 R J n turns n_1 n_2 b_5 s_2 n_4 n_5
  b_8 s_4 n_3 n_6 b) → J w1_4) → Br (decide (n ≤ (↑turns.2 : Int))) (Br (decide (n < 40)) (some (SV.box b_1 27 (SV.struct [SV.int IntKind.i64 src_0, SV.arr
  IntKind.u8 16 src_1])) = some (SV.box b_1 27 (SV.struct [SV.int IntKind.i64 src_0, SV.arr IntKind.u8 16 src_1])) ∧ some (SV.box b_2 27 (SV.struct [SV.int
  IntKind.i64 dst_0, SV.arr IntKind.u8 16 dst_1])) = some (SV.box b_2 27 (SV.struct [SV.int IntKind.i64 dst_0, SV.arr IntKind.u8 16 dst_1])) ∧ J w1) (Ret
  Tryd.prog 52 [SV.ptr (some { block := b_4, off := 0 })] w1 fun (r : SV) (w1_4 : World) => ∃ (b : Bool), r = SV.bool b ∧ Keeps [b_1, b_2] w1 w1_4 ∧ R (SV.bool
  b) w1_4)) (Ret Tryd.prog 52 [SV.ptr (some { block := b_4, off := 0 })] w1 fun (r : SV) (w1_4 : World) => ∃ (b : Bool), r = SV.bool b ∧ Keeps [b_1, b_2]
  w1 w1_4 ∧ R (SV.bool b) w1_4))
theorem f15_of (src_0 : Int) (src_1 : Nat → Int) (dst_0 : Int) (dst_1 : Nat → Int) (b : Sl) (turns : Sl) (w : World) (R : SV → World → Prop) (h : vc15 src_0 src_1 dst_0 dst_1 b turns w R) : Ret Tryd.prog 15 [.struct [.int .i64 src_0, .arr .u8 16 src_1], .struct [.int .i64 dst_0, .arr .u8 16 dst_1], .slice b, .slice turns] w R :=
  have e : vc15 src_0 src_1 dst_0 dst_1 b turns w R = fnVC X Tryd.f15 a15 [.struct [.int .i64 src_0, .arr .u8 16 src_1], .struct [.int .i64 dst_0, .arr .u8 16 dst_1], .slice b, .slice turns] w R := by kernel_rfl
  fnVC_sound X_ok (n := a15) (e ▸ h) (by kernel_rfl) (by kernel_rfl) rfl rfl

end Go.Vc.S9
