import Derived.Test.YthijmbkpkopdpaaTopWholeOnce4K2
import Derived.KernelRfl
import Derived.OpenShut
import Derived.ProofKit
import Derived.ChangeOld
import Derived.JoinedCond
import Derived.Carry
import Derived.SizedLaws
import Derived.Deep.CondSized
import Derived.DeepKeys4
section
open Go Go.Vc Go.Vc.Stop Go.Proofs
set_option maxRecDepth 100000
set_option linter.unusedVariables false
namespace Go.Vc.Stop
def vc47 (max : Int) (w : World) (R : SV → World → Prop) : Prop :=
  ∀ (J : World → Prop),
    (∀ (w1 : World),
        (∀ (b : Nat) (w1_1 : World),
            Upd [] [b] w1 w1_1 →
              (World.heap w1_1)[b]? = some (Obj.cells { toList := SV.cells (SV.struct [SV.arr IntKind.i64 2 (fset (fset (fun (x : Nat) => 0) 0 0) 1 max)]) } 128) →
                ∀ (b_1 : Nat) (w1 : World),
                  Upd [] [b_1] w1_1 w1 →
                    MapL w1 b_1 [] →
                      ∀ (b_2 : Nat) (w1_2 : World),
                        Upd [] [b_2] w1 w1_2 →
                          (World.heap w1_2)[b_2]? =
                              some
                                (Obj.cells
                                  {
                                    toList :=
                                      SV.cells
                                        (SV.struct
                                          [SV.int IntKind.i64 max, SV.slice { ptr := none, len := 0, cap := 0 },
                                            SV.slice { ptr := some { block := b, off := 0 }, len := 1, cap := 1 }, SV.int IntKind.i64 (-1), SV.int IntKind.i64 0,
                                            SV.map (some b_1)]) }
                                  119) →
                            R (SV.tuple [SV.ptr (some { block := b_2, off := 0 }), SV.int IntKind.i64 0]) w1_2) →
          J w1) →
      Br (decide (max < 1)) (R (SV.tuple [SV.ptr none, SV.int IntKind.i64 1]) w) (Br (decide (max > 65535)) (R (SV.tuple [SV.ptr none, SV.int IntKind.i64 1]) w) (J w))
theorem f47_of (max : Int) (w : World) (R : SV → World → Prop) (hV : vc47 max w R) : Ret Try.prog 47 [.int .i64 max] w R :=
  have e : vc47 max w R = fnVC X Try.f47 a47 [.int .i64 max] w R := by kernel_rfl
  fnVC_sound X_ok (n := a47) (e ▸ hV) (by kernel_rfl) (by kernel_rfl) rfl rfl

def vc48 (h : Option Addr) (w : World) (R : SV → World → Prop) : Prop :=
  deref h fun (a : Addr) =>
    ∃ (n : Int),
      World.cell? w (Addr.add a 3) = some (Value.int IntKind.i64 n) ∧
        deref h fun (a : Addr) =>
          ∃ (n_1 : Int),
            World.cell? w (Addr.add a 3) = some (Value.int IntKind.i64 n_1) ∧
              ∀ (w1 : World), Upd [] [] w w1 → R (SV.tuple [SV.int IntKind.i64 (imax n 0), SV.bool (decide (n_1 ≥ 0))]) w1
theorem f48_of (h : Option Addr) (w : World) (R : SV → World → Prop) (hV : vc48 h w R) : Ret Try.prog 48 [.ptr h] w R :=
  have e : vc48 h w R = fnVC X Try.f48 a48 [.ptr h] w R := by kernel_rfl
  fnVC_sound X_ok (n := a48) (e ▸ hV) (by kernel_rfl) (by kernel_rfl) rfl rfl

def a1049 : Ann := (.seq .leaf (.seq (.seq .leaf (.seq .leaf (.cond (.seq .leaf .leaf) .leaf))) (.seq .leaf (.cut [] [0] (.seq .leaf (.cond (.draw (.early 0 (.early 1 (.early 2 (.early 3 (.early 4 (.early 5 (.early 6 (.early 7 (.early 8 (.early 9 (.early 10 (.early 11 (.fork [(12, (.early 13 (.early 14 (.fork [(15, .done)]))))])))))))))))))) .leaf)) (.seq .leaf (.seq .leaf (.seq .leaf (.cut [(.t 13, (.slice 128)), (.b 1, (.struct false [(.int .i64), (.int .i64), .bool]))] [0] (.seq .leaf (.block (.loop [(.t 13, (.slice 128)), (.t 62, (.int .i64)), (.b 1, (.struct false [(.int .i64), (.int .i64), .bool]))] [0] (.seq .leaf (.seq (.cond .leaf .leaf) (.seq (.block (.seq .leaf (.seq (.seq .leaf (.cond (.seq .leaf .leaf) .leaf)) (.seq (.seq .leaf (.cond (.seq .leaf .leaf) .leaf)) (.seq (.draw (.early 0 (.early 1 (.early 2 (.early 3 (.early 4 (.early 5 (.early 6 (.early 7 (.early 8 (.early 9 .done))))))))))) (.seq (.drawK [] (.early 0 (.early 1 (.early 2 (.early 3 (.early 4 (.early 5 (.early 6 (.early 7 (.early 8 (.early 9 (.early 10 (.early 11 (.early 12 (.early 13 (.early 14 (.early 15 (.early 16 (.fork [(17, (.early 18 (.early 19 (.fork [(20, .done)]))))]))))))))))))))))))) (.cut [(.t 13, (.slice 128))] [0, 1, 2] (.seq .leaf (.cond .leaf .leaf)) (.seq .leaf (.cond .leaf .leaf))))))))) .leaf)))))) (.seq .leaf (.cut [] [0, 1] (.seq .leaf (.cond (.seq .leaf (.seq .leaf (.seq (.draw (.early 0 (.early 1 (.early 2 (.early 3 (.early 4 (.early 5 (.early 6 (.early 7 (.early 8 (.early 9 (.early 10 (.early 11 (.early 12 (.early 13 (.early 14 (.early 15 (.early 16 (.early 17 .done))))))))))))))))))) (.cond (.seq .leaf (.seq .leaf (.cond .leaf .leaf))) .leaf)))) .leaf)) (.seq (.draw (.early 0 (.early 1 (.early 2 (.early 3 (.early 4 (.early 5 (.early 6 (.early 7 (.early 8 (.fork [(9, .done)]))))))))))) (.seq .leaf (.seq .leaf (.seq (.draw (.early 0 (.early 1 (.early 2 (.early 3 (.early 4 (.fork [(5, (.early 6 (.early 7 (.early 8 (.fork [(9, (.fork [(10, (.early 11 .done))]))]))))), (9, (.fork [(5, (.early 6 (.early 7 (.early 8 (.fork [(10, (.early 11 .done))])))))]))]))))))) (.seq .leaf (.seq (.draw (.early 0 (.early 1 (.early 2 (.early 3 (.early 4 (.early 5 (.fork [(6, .done)])))))))) (.seq .leaf .leaf)))))))))))))))))
def vc49 (h : Option Addr) (off : Int) (data : Sl) (more : Bool) (w : World) (R : SV → World → Prop) : Prop := ∀ (b : Nat) (w1 : World), Upd [] [b] w w1
  → Ret Try.prog 61 [SV.ptr h, SV.int IntKind.i64 off, SV.slice data, SV.bool more] w1 fun (r : SV) (w1_1 : World) => ∃ (n : Int), r = SV.int IntKind.i64
  n ∧ Keeps [b] w1 w1_1 ∧ Br (n != 0) (∀ (w1 : World), Upd [b] [] w1_1 w1 → R (SV.tuple [SV.struct [SV.int IntKind.i64 0, SV.int IntKind.i64 0, SV.bool false],
  SV.int IntKind.i64 n]) w1) (∀ (J : World → Prop), (∀ (w1 : World), (∀ (b_1 : Nat) (J : Sl → Int → Int → Bool → World → Prop), (∀ (s : Sl) (n n_1 : Int)
  (b_2 : Bool) (w1 : World), (deref h fun (a : Addr) => Store w1 (Addr.add a 2) (SV.cells (SV.slice s)) [b, b_1] fun (w1 : World) => ∀ (J : World → Prop),
  (∀ (w1 : World), (deref h fun (a : Addr) => ∃ (n_2 : Int), World.cell? w1 (Addr.add a 4) = some (Value.int IntKind.i64 n_2) ∧ deref h fun (a : Addr) =>
  ∀ (w1_2 : World), Upd [] [] w1 w1_2 → Store w1_2 (Addr.add a 4) (SV.cells (SV.int IntKind.i64 (wr IntKind.i64 (n_2 + n)))) [b, b_1] fun (w1 : World) =>
  ∀ (b_3 : Nat) (w1_3 : World), Upd [b_1] [b_3] w1 w1_3 → deref h fun (a : Addr) => ∃ (r : Option Nat), World.cell? w1_3 (Addr.add a 5) = some (Value.map
  r) ∧ (derefN r fun (r : Nat) => ∀ (w1 : World), Upd [] [] w1_3 w1 → Program.underlying Try.prog 117 = some (TypeDesc.map 131 132) ∧ ∃ (l : List (Value ×
  SV)), MapL w1 r l ∧ KeysOk Try.prog 131 (SV.enc (SV.struct [SV.int IntKind.i64 off, SV.int IntKind.i64 (↑data.2 : Int), SV.bool more])) l ∧ AllShape (Ty.struct
  false []) l ∧ ∀ (b_4 : Bool), Vc.Found l (SV.enc (SV.struct [SV.int IntKind.i64 off, SV.int IntKind.i64 (↑data.2 : Int), SV.bool more])) (SV.struct [])
  (SV.struct []) b_4 → ∀ (b_5 : Nat), Upd [] [] w1_3 w1 ∧ Br b_4 (deref h fun (a : Addr) => ∃ (s : Sl), World.cell? w1 (Addr.add a 1) = some (Sl.val s) ∧
  Need (decide (0 ≤ wr IntKind.i64 (off + (↑data.2 : Int))) && decide (wr IntKind.i64 (off + (↑data.2 : Int)) ≤ (↑s.3 : Int)) && (decide (0 ≤ off) && decide
  (off ≤ (↑(Int.toNat (wr IntKind.i64 (off + (↑data.2 : Int)))) : Int)))) (∀ (w1_4 : World), Upd [] [b_5] w1 w1_4 → Ret Try.prog 62 [SV.slice (Sl.sub s 1
  (Int.toNat off) (Int.toNat (wr IntKind.i64 (off + (↑data.2 : Int)))) s.3), SV.slice data] w1_4 fun (r : SV) (w1 : World) => ∃ (b_6 : Bool), r = SV.bool
  b_6 ∧ Keeps [b, b_1, b_3, b_5] w1_4 w1 ∧ ∀ (w1_5 : World), Upd [b_1] [] w1 w1_5 → deref h fun (a : Addr) => ∃ (r : Option Nat), World.cell? w1_5 (Addr.add
  a 5) = some (Value.map r) ∧ derefN r fun (r : Nat) => ∀ (w1 : World), Upd [] [] w1_5 w1 → Program.underlying Try.prog 117 = some (TypeDesc.map 131 132)
  ∧ ¬r ∈ [b, b_1, b_3, b_5] ∧ ∃ (l : List (Value × SV)), MapL w1 r l ∧ KeysOk Try.prog 131 (SV.enc (SV.struct [SV.int IntKind.i64 off, SV.int IntKind.i64
  (↑data.2 : Int), SV.bool more])) l ∧ ∀ (l' : List (Value × SV)) (w1_6 : World), SetAt l (SV.enc (SV.struct [SV.int IntKind.i64 off, SV.int IntKind.i64 (↑data.2
  : Int), SV.bool more])) (SV.struct []) l' → Upd [r] [] w1 w1_6 → MapL w1_6 r l' → ∀ (w1 : World), Upd [b] [] w1_6 w1 → R (SV.tuple [SV.struct [SV.int IntKind.i64
  n, SV.int IntKind.i64 (wr IntKind.i64 ((↑data.2 : Int) - n)), SV.bool b_6], SV.int IntKind.i64 0]) w1)) (∀ (w1_4 : World), Upd [b_1] [b_5] w1 w1_4 → deref
  h fun (a : Addr) => ∃ (r : Option Nat), World.cell? w1_4 (Addr.add a 5) = some (Value.map r) ∧ derefN r fun (r : Nat) => ∀ (w1 : World), Upd [] [] w1_4
  w1 → Program.underlying Try.prog 117 = some (TypeDesc.map 131 132) ∧ ¬r ∈ [b, b_1, b_3, b_5] ∧ ∃ (l : List (Value × SV)), MapL w1 r l ∧ KeysOk Try.prog
  131 (SV.enc (SV.struct [SV.int IntKind.i64 off, SV.int IntKind.i64 (↑data.2 : Int), SV.bool more])) l ∧ ∀ (l' : List (Value × SV)) (w1_5 : World), SetAt
  l (SV.enc (SV.struct [SV.int IntKind.i64 off, SV.int IntKind.i64 (↑data.2 : Int), SV.bool more])) (SV.struct []) l' → Upd [r] [] w1 w1_5 → MapL w1_5 r l'
  → ∀ (w1 : World), Upd [b] [] w1_5 w1 → R (SV.tuple [SV.struct [SV.int IntKind.i64 n, SV.int IntKind.i64 (wr IntKind.i64 ((↑data.2 : Int) - n)), SV.bool
  false], SV.int IntKind.i64 0]) w1)) ∧ ∀ (b_4 : Nat), Upd [] [] w1_3 w1_3 ∧ derefN r fun (r : Nat) => ∀ (w1 : World), Upd [] [b_4] w1_3 w1 → Program.underlying
  Try.prog 117 = some (TypeDesc.map 131 132) ∧ ∃ (l : List (Value × SV)), MapL w1 r l ∧ KeysOk Try.prog 131 (SV.enc (SV.struct [SV.int IntKind.i64 off, SV.int
  IntKind.i64 (↑data.2 : Int), SV.bool more])) l ∧ AllShape (Ty.struct false []) l ∧ ∀ (b_5 : Bool), Vc.Found l (SV.enc (SV.struct [SV.int IntKind.i64 off,
  SV.int IntKind.i64 (↑data.2 : Int), SV.bool more])) (SV.struct []) (SV.struct []) b_5 → Br b_5 (deref h fun (a : Addr) => ∀ (w1_4 : World), Upd [b_4] []
  w1 w1_4 → ∃ (s : Sl), World.cell? w1_4 (Addr.add a 1) = some (Sl.val s) ∧ Need (decide (0 ≤ wr IntKind.i64 (off + (↑data.2 : Int))) && decide (wr IntKind.i64
  (off + (↑data.2 : Int)) ≤ (↑s.3 : Int)) && (decide (0 ≤ off) && decide (off ≤ (↑(Int.toNat (wr IntKind.i64 (off + (↑data.2 : Int)))) : Int)))) (Ret Try.prog
  62 [SV.slice (Sl.sub s 1 (Int.toNat off) (Int.toNat (wr IntKind.i64 (off + (↑data.2 : Int)))) s.3), SV.slice data] w1_4 fun (r : SV) (w1 : World) => ∃ (b_6
  : Bool), r = SV.bool b_6 ∧ Keeps [b, b_1, b_3, b_4] w1_4 w1 ∧ ∀ (w1_5 : World), Upd [b_1] [] w1 w1_5 → deref h fun (a : Addr) => ∃ (r : Option Nat), World.cell?
  w1_5 (Addr.add a 5) = some (Value.map r) ∧ derefN r fun (r : Nat) => ∀ (w1 : World), Upd [] [] w1_5 w1 → Program.underlying Try.prog 117 = some (TypeDesc.map
  131 132) ∧ ¬r ∈ [b, b_1, b_3, b_4] ∧ ∃ (l : List (Value × SV)), MapL w1 r l ∧ KeysOk Try.prog 131 (SV.enc (SV.struct [SV.int IntKind.i64 off, SV.int IntKind.i64
  (↑data.2 : Int), SV.bool more])) l ∧ ∀ (l' : List (Value × SV)) (w1_6 : World), SetAt l (SV.enc (SV.struct [SV.int IntKind.i64 off, SV.int IntKind.i64 (↑data.2
  : Int), SV.bool more])) (SV.struct []) l' → Upd [r] [] w1 w1_6 → MapL w1_6 r l' → ∀ (w1 : World), Upd [b] [] w1_6 w1 → R (SV.tuple [SV.struct [SV.int IntKind.i64
  n, SV.int IntKind.i64 (wr IntKind.i64 ((↑data.2 : Int) - n)), SV.bool b_6], SV.int IntKind.i64 0]) w1)) (∀ (w1_4 : World), Upd [b_1, b_4] [] w1 w1_4 → deref
  h fun (a : Addr) => ∃ (r : Option Nat), World.cell? w1_4 (Addr.add a 5) = some (Value.map r) ∧ derefN r fun (r : Nat) => ∀ (w1 : World), Upd [] [] w1_4
  w1 → Program.underlying Try.prog 117 = some (TypeDesc.map 131 132) ∧ ¬r ∈ [b, b_1, b_3, b_4] ∧ ∃ (l : List (Value × SV)), MapL w1 r l ∧ KeysOk Try.prog
  131 (SV.enc (SV.struct [SV.int IntKind.i64 off, SV.int IntKind.i64 (↑data.2 : Int), SV.bool more])) l ∧ ∀ (l' : List (Value × SV)) (w1_5 : World), SetAt
  l (SV.enc (SV.struct [SV.int IntKind.i64 off, SV.int IntKind.i64 (↑data.2 : Int), SV.bool more])) (SV.struct []) l' → Upd [r] [] w1 w1_5 → MapL w1_5 r l'
  → ∀ (w1 : World), Upd [b] [] w1_5 w1 → R (SV.tuple [SV.struct [SV.int IntKind.i64 n, SV.int IntKind.i64 (wr IntKind.i64 ((↑data.2 : Int) - n)), SV.bool
  false], SV.int IntKind.i64 0]) w1)) → J w1) → Br (!more) (deref h fun (a : Addr) => ∃ (n_2 : Int), World.cell? w1 (Addr.add a 3) = some (Value.int IntKind.i64
  n_2) ∧ Br (decide (n_2 < 0)) (deref h fun (a : Addr) => Store w1 (Addr.add a 3) (SV.cells (SV.int IntKind.i64 (wr IntKind.i64 (off + (↑data.2 : Int)))))
  [b, b_1] fun (w1 : World) => deref h fun (a : Addr) => ∃ (s : Sl), World.cell? w1 (Addr.add a 2) = some (Sl.val s) ∧ Br (decide ((↑s.2 : Int) > 0)) (deref
  h fun (a : Addr) => ∃ (s_1 : Sl), World.cell? w1 (Addr.add a 2) = some (Sl.val s_1) ∧ Need (decide (0 ≤ wr IntKind.i64 ((↑s.2 : Int) - 1)) && decide (wr
  IntKind.i64 ((↑s.2 : Int) - 1) < (↑s_1.2 : Int)) && Option.isSome s_1.1) (∃ (n_3 : Int), World.cell? w1 (Addr.add (Sl.at s_1 2 (Int.toNat (wr IntKind.i64
  ((↑s.2 : Int) - 1)))) 1) = some (Value.int IntKind.i64 n_3) ∧ deref h fun (a : Addr) => ∃ (n_4 : Int), World.cell? w1 a = some (Value.int IntKind.i64 n_4)
  ∧ Br (n_3 == n_4) (deref h fun (a : Addr) => ∃ (s_2 : Sl), World.cell? w1 (Addr.add a 2) = some (Sl.val s_2) ∧ Need (decide (0 ≤ wr IntKind.i64 ((↑s.2 :
  Int) - 1)) && decide (wr IntKind.i64 ((↑s.2 : Int) - 1) < (↑s_2.2 : Int)) && Option.isSome s_2.1) (∀ (w1_2 : World), Upd [] [] w1 w1_2 → Store w1_2 (Addr.add
  (Sl.at s_2 2 (Int.toNat (wr IntKind.i64 ((↑s.2 : Int) - 1)))) 1) (SV.cells (SV.int IntKind.i64 (wr IntKind.i64 (off + (↑data.2 : Int))))) [b, b_1] fun (w1
  : World) => deref h fun (a : Addr) => ∃ (s_3 : Sl), World.cell? w1 (Addr.add a 2) = some (Sl.val s_3) ∧ Need (decide (0 ≤ wr IntKind.i64 ((↑s.2 : Int) -
  1)) && decide (wr IntKind.i64 ((↑s.2 : Int) - 1) < (↑s_3.2 : Int)) && Option.isSome s_3.1) (∃ (n_5 : Int), World.cell? w1 (Addr.add (Sl.at s_3 2 (Int.toNat
  (wr IntKind.i64 ((↑s.2 : Int) - 1)))) 0) = some (Value.int IntKind.i64 n_5) ∧ Br (decide (n_5 ≥ wr IntKind.i64 (off + (↑data.2 : Int)))) (deref h fun (a
  : Addr) => ∃ (s_4 : Sl), World.cell? w1 (Addr.add a 2) = some (Sl.val s_4) ∧ Need (decide (0 ≤ wr IntKind.i64 ((↑s.2 : Int) - 1)) && decide (wr IntKind.i64
  ((↑s.2 : Int) - 1) ≤ (↑s_4.3 : Int))) (deref h fun (a : Addr) => Store w1 (Addr.add a 2) (SV.cells (SV.slice (Sl.sub s_4 2 0 (Int.toNat (wr IntKind.i64
  ((↑s.2 : Int) - 1))) s_4.3))) [b, b_1] fun (w1 : World) => some (SV.box b 70 (SV.struct [SV.int IntKind.i64 0, SV.int IntKind.i64 0, SV.bool false])) =
  some (SV.box b 70 (SV.struct [SV.int IntKind.i64 0, SV.int IntKind.i64 0, SV.bool false])) ∧ some (SV.box b_1 70 (SV.struct [SV.int IntKind.i64 n, SV.int
  IntKind.i64 n_1, SV.bool b_2])) = some (SV.box b_1 70 (SV.struct [SV.int IntKind.i64 n, SV.int IntKind.i64 n_1, SV.bool b_2])) ∧ J w1)) (some (SV.box b
  70 (SV.struct [SV.int IntKind.i64 0, SV.int IntKind.i64 0, SV.bool false])) = some (SV.box b 70 (SV.struct [SV.int IntKind.i64 0, SV.int IntKind.i64 0,
  SV.bool false])) ∧ some (SV.box b_1 70 (SV.struct [SV.int IntKind.i64 n, SV.int IntKind.i64 n_1, SV.bool b_2])) = some (SV.box b_1 70 (SV.struct [SV.int
  IntKind.i64 n, SV.int IntKind.i64 n_1, SV.bool b_2])) ∧ J w1)))) (∀ (w1_2 : World), Upd [] [] w1 w1_2 → some (SV.box b 70 (SV.struct [SV.int IntKind.i64
  0, SV.int IntKind.i64 0, SV.bool false])) = some (SV.box b 70 (SV.struct [SV.int IntKind.i64 0, SV.int IntKind.i64 0, SV.bool false])) ∧ some (SV.box b_1
  70 (SV.struct [SV.int IntKind.i64 n, SV.int IntKind.i64 n_1, SV.bool b_2])) = some (SV.box b_1 70 (SV.struct [SV.int IntKind.i64 n, SV.int IntKind.i64 n_1,
  SV.bool b_2])) ∧ J w1_2))) (∀ (w1_2 : World), Upd [] [] w1 w1_2 → some (SV.box b 70 (SV.struct [SV.int IntKind.i64 0, SV.int IntKind.i64 0, SV.bool false]))
  = some (SV.box b 70 (SV.struct [SV.int IntKind.i64 0, SV.int IntKind.i64 0, SV.bool false])) ∧ some (SV.box b_1 70 (SV.struct [SV.int IntKind.i64 n, SV.int
  IntKind.i64 n_1, SV.bool b_2])) = some (SV.box b_1 70 (SV.struct [SV.int IntKind.i64 n, SV.int IntKind.i64 n_1, SV.bool b_2])) ∧ J w1_2)) (some (SV.box
  b 70 (SV.struct [SV.int IntKind.i64 0, SV.int IntKind.i64 0, SV.bool false])) = some (SV.box b 70 (SV.struct [SV.int IntKind.i64 0, SV.int IntKind.i64 0,
  SV.bool false])) ∧ some (SV.box b_1 70 (SV.struct [SV.int IntKind.i64 n, SV.int IntKind.i64 n_1, SV.bool b_2])) = some (SV.box b_1 70 (SV.struct [SV.int
  IntKind.i64 n, SV.int IntKind.i64 n_1, SV.bool b_2])) ∧ J w1)) (some (SV.box b 70 (SV.struct [SV.int IntKind.i64 0, SV.int IntKind.i64 0, SV.bool false]))
  = some (SV.box b 70 (SV.struct [SV.int IntKind.i64 0, SV.int IntKind.i64 0, SV.bool false])) ∧ some (SV.box b_1 70 (SV.struct [SV.int IntKind.i64 n, SV.int
  IntKind.i64 n_1, SV.bool b_2])) = some (SV.box b_1 70 (SV.struct [SV.int IntKind.i64 n, SV.int IntKind.i64 n_1, SV.bool b_2])) ∧ J w1)) → J s n n_1 b_2
  w1) → deref h fun (a : Addr) => ∃ (s : Sl), World.cell? w1 (Addr.add a 2) = some (Sl.val s) ∧ ∃ (I : Sl → Int → Int → Int → Bool → World → Prop), ∃ (M :
  Sl → Int → Int → Int → Bool → World → Nat), (∀ (w1_2 : World), Upd [] [b_1] w1 w1_2 → I { ptr := none, len := 0, cap := 0 } 0 0 0 false w1_2) ∧ ∀ (s_1 :
  Sl) (n n_1 n_2 : Int) (b_2 : Bool) (w1 : World), I s_1 n n_1 n_2 b_2 w1 → Br (decide (n < (↑s.2 : Int))) (Need (decide (0 ≤ n) && decide (n < (↑s.2 : Int))
  && Option.isSome s.1) (∃ (f : Nat → Int), (∀ (i : Nat), i < 2 → World.cell? w1 (Addr.add (Sl.at s 2 (Int.toNat n)) (0 + i)) = some (Value.int IntKind.i64
  (f i))) ∧ ∀ (b_3 : Nat), Br (decide (f 0 ≥ wr IntKind.i64 (off + (↑data.2 : Int)))) (deref h fun (a : Addr) => ∃ (s : Sl), World.cell? w1 (Addr.add a 2)
  = some (Sl.val s) ∧ Need (decide (0 ≤ n) && decide (n ≤ (↑s.2 : Int))) (∀ (w1_2 : World), Upd [] [b_3] w1 w1_2 → Vc.Append 128 2 16 s_1 (Sl.sub s 2 (Int.toNat
  n) s.2 s.3) [b, b_1, b_3] w1_2 fun (r : Sl) (w : World) => some (SV.box b 70 (SV.struct [SV.int IntKind.i64 0, SV.int IntKind.i64 0, SV.bool false])) =
  some (SV.box b 70 (SV.struct [SV.int IntKind.i64 0, SV.int IntKind.i64 0, SV.bool false])) ∧ (b_1, 70) = (b_1, 70) ∧ J r n_1 n_2 b_2 w)) (Br (decide (f
  1 ≤ off)) (∀ (w1_2 : World), Upd [] [b_3] w1 w1_2 → ∀ (b_4 : Nat) (w1_3 : World), Upd [] [b_4] w1_2 w1_3 → (World.heap w1_3)[b_4]? = some (Obj.cells { toList := SV.cells (SV.struct [SV.arr IntKind.i64 2 f]) }
  128) → Vc.Append 128 2 16 s_1 { ptr := some { block := b_4, off := 0 }, len := 1, cap := 1 } [b, b_1, b_3] w1_3 fun (r : Sl) (w : World) => some (SV.box
  b 70 (SV.struct [SV.int IntKind.i64 0, SV.int IntKind.i64 0, SV.bool false])) = some (SV.box b 70 (SV.struct [SV.int IntKind.i64 0, SV.int IntKind.i64 0,
  SV.bool false])) ∧ (b_1, 70) = (b_1, 70) ∧ I r (wr IntKind.i64 (n + 1)) n_1 n_2 b_2 w ∧ M r (wr IntKind.i64 (n + 1)) n_1 n_2 b_2 w < M s_1 n n_1 n_2 b_2
  w1) (∀ (w1_2 : World), Upd [] [b_3] w1 w1_2 → ∃ (bs : List Nat), (∀ (b : Nat), b ∈ bs → b < List.length (World.heap w1_2).1) ∧ deref h fun (a : Addr) =>
  Addr.block (Addr.add a 1) ∈ bs ∧ ∃ (s : Sl), World.cell? w1_2 (Addr.add a 1) = some (Sl.val s) ∧ Need (decide (0 ≤ imin (f 1) (wr IntKind.i64 (off + (↑data.2
  : Int)))) && decide (imin (f 1) (wr IntKind.i64 (off + (↑data.2 : Int))) ≤ (↑s.3 : Int)) && (decide (0 ≤ imax (f 0) off) && decide (imax (f 0) off ≤ (↑(Int.toNat
  (imin (f 1) (wr IntKind.i64 (off + (↑data.2 : Int))))) : Int)))) (Need (decide (0 ≤ wr IntKind.i64 (imin (f 1) (wr IntKind.i64 (off + (↑data.2 : Int)))
  - off)) && decide (wr IntKind.i64 (imin (f 1) (wr IntKind.i64 (off + (↑data.2 : Int))) - off) ≤ (↑data.3 : Int)) && (decide (0 ≤ wr IntKind.i64 (imax (f
  0) off - off)) && decide (wr IntKind.i64 (imax (f 0) off - off) ≤ (↑(Int.toNat (wr IntKind.i64 (imin (f 1) (wr IntKind.i64 (off + (↑data.2 : Int))) - off)))
  : Int)))) (∀ (w1_3 : World), Upd [] [] w1_2 w1_3 → Copy 1 (Sl.sub s 1 (Int.toNat (imax (f 0) off)) (Int.toNat (imin (f 1) (wr IntKind.i64 (off + (↑data.2
  : Int))))) s.3) (Sl.sub data 1 (Int.toNat (wr IntKind.i64 (imax (f 0) off - off))) (Int.toNat (wr IntKind.i64 (imin (f 1) (wr IntKind.i64 (off + (↑data.2
  : Int))) - off))) data.3) [b, b_1, b_3] w1_3 fun (w : World) => Kept bs w1_2 w ∧ ∀ (J : Sl → World → Prop), (∀ (s_2 : Sl) (w1_4 : World), Br (decide (imin
  (f 1) (wr IntKind.i64 (off + (↑data.2 : Int))) < f 1)) (∀ (b_4 : Nat) (w1_5 : World), Upd [] [b_4] w1_4 w1_5 → (World.heap w1_5)[b_4]? = some (Obj.cells
  { toList := SV.cells (SV.struct [SV.arr IntKind.i64 2 (fset (fset (fun (x : Nat) => 0) 0 (imin (f 1) (wr IntKind.i64 (off + (↑data.2 : Int))))) 1 (f 1))]) }
  128) → Vc.Append 128 2 16 s_2 { ptr := some { block := b_4, off := 0 }, len := 1, cap := 1 } [b, b_1, b_3] w1_5 fun (r : Sl) (w : World) => some (SV.box
  b 70 (SV.struct [SV.int IntKind.i64 0, SV.int IntKind.i64 0, SV.bool false])) = some (SV.box b 70 (SV.struct [SV.int IntKind.i64 0, SV.int IntKind.i64 0,
  SV.bool false])) ∧ (b_1, 70) = (b_1, 70) ∧ I r (wr IntKind.i64 (n + 1)) (wr IntKind.i64 (n_1 + (↑(Nat.min (Sl.sub data 1 (Int.toNat (wr IntKind.i64 (imax
  (f 0) off - off))) (Int.toNat (wr IntKind.i64 (imin (f 1) (wr IntKind.i64 (off + (↑data.2 : Int))) - off))) data.3).2 (Sl.sub s 1 (Int.toNat (imax (f 0)
  off)) (Int.toNat (imin (f 1) (wr IntKind.i64 (off + (↑data.2 : Int))))) s.3).2) : Int))) n_2 b_2 w ∧ M r (wr IntKind.i64 (n + 1)) (wr IntKind.i64 (n_1 +
  (↑(Nat.min (Sl.sub data 1 (Int.toNat (wr IntKind.i64 (imax (f 0) off - off))) (Int.toNat (wr IntKind.i64 (imin (f 1) (wr IntKind.i64 (off + (↑data.2 : Int)))
  - off))) data.3).2 (Sl.sub s 1 (Int.toNat (imax (f 0) off)) (Int.toNat (imin (f 1) (wr IntKind.i64 (off + (↑data.2 : Int))))) s.3).2) : Int))) n_2 b_2 w
  < M s_1 n n_1 n_2 b_2 w1) (some (SV.box b 70 (SV.struct [SV.int IntKind.i64 0, SV.int IntKind.i64 0, SV.bool false])) = some (SV.box b 70 (SV.struct [SV.int
  IntKind.i64 0, SV.int IntKind.i64 0, SV.bool false])) ∧ (b_1, 70) = (b_1, 70) ∧ I s_2 (wr IntKind.i64 (n + 1)) (wr IntKind.i64 (n_1 + (↑(Nat.min (Sl.sub
  data 1 (Int.toNat (wr IntKind.i64 (imax (f 0) off - off))) (Int.toNat (wr IntKind.i64 (imin (f 1) (wr IntKind.i64 (off + (↑data.2 : Int))) - off))) data.3).2
  (Sl.sub s 1 (Int.toNat (imax (f 0) off)) (Int.toNat (imin (f 1) (wr IntKind.i64 (off + (↑data.2 : Int))))) s.3).2) : Int))) n_2 b_2 w1_4 ∧ M s_2 (wr IntKind.i64
  (n + 1)) (wr IntKind.i64 (n_1 + (↑(Nat.min (Sl.sub data 1 (Int.toNat (wr IntKind.i64 (imax (f 0) off - off))) (Int.toNat (wr IntKind.i64 (imin (f 1) (wr
  IntKind.i64 (off + (↑data.2 : Int))) - off))) data.3).2 (Sl.sub s 1 (Int.toNat (imax (f 0) off)) (Int.toNat (imin (f 1) (wr IntKind.i64 (off + (↑data.2
  : Int))))) s.3).2) : Int))) n_2 b_2 w1_4 < M s_1 n n_1 n_2 b_2 w1) → J s_2 w1_4) → Br (decide (f 0 < imax (f 0) off)) (∀ (b_4 : Nat) (w1 : World), Upd [b_1]
  [b_4] w w1 → (World.heap w1)[b_4]? = some (Obj.cells { toList := SV.cells (SV.struct [SV.arr IntKind.i64 2 (fset (fset (fun (x : Nat) => 0) 0 (f 0)) 1 (imax (f 0) off))]) }
  128) → Vc.Append 128 2 16 s_1 { ptr := some { block := b_4, off := 0 }, len := 1, cap := 1 } [b, b_1, b_3] w1 fun (r : Sl) (w : World) => some (SV.box b
  70 (SV.struct [SV.int IntKind.i64 0, SV.int IntKind.i64 0, SV.bool false])) = some (SV.box b 70 (SV.struct [SV.int IntKind.i64 0, SV.int IntKind.i64 0,
  SV.bool false])) ∧ some (SV.box b_1 70 (SV.struct [SV.int IntKind.i64 (wr IntKind.i64 (n_1 + (↑(Nat.min (Sl.sub data 1 (Int.toNat (wr IntKind.i64 (imax
  (f 0) off - off))) (Int.toNat (wr IntKind.i64 (imin (f 1) (wr IntKind.i64 (off + (↑data.2 : Int))) - off))) data.3).2 (Sl.sub s 1 (Int.toNat (imax (f 0)
  off)) (Int.toNat (imin (f 1) (wr IntKind.i64 (off + (↑data.2 : Int))))) s.3).2) : Int))), SV.int IntKind.i64 n_2, SV.bool b_2])) = some (SV.box b_1 70 (SV.struct
  [SV.int IntKind.i64 (wr IntKind.i64 (n_1 + (↑(Nat.min (Sl.sub data 1 (Int.toNat (wr IntKind.i64 (imax (f 0) off - off))) (Int.toNat (wr IntKind.i64 (imin
  (f 1) (wr IntKind.i64 (off + (↑data.2 : Int))) - off))) data.3).2 (Sl.sub s 1 (Int.toNat (imax (f 0) off)) (Int.toNat (imin (f 1) (wr IntKind.i64 (off +
  (↑data.2 : Int))))) s.3).2) : Int))), SV.int IntKind.i64 n_2, SV.bool b_2])) ∧ some (SV.box b_3 128 (SV.arr IntKind.i64 2 f)) = some (SV.box b_3 128 (SV.arr
  IntKind.i64 2 f)) ∧ J r w) (∀ (w1 : World), Upd [b_1] [] w w1 → some (SV.box b 70 (SV.struct [SV.int IntKind.i64 0, SV.int IntKind.i64 0, SV.bool false]))
  = some (SV.box b 70 (SV.struct [SV.int IntKind.i64 0, SV.int IntKind.i64 0, SV.bool false])) ∧ some (SV.box b_1 70 (SV.struct [SV.int IntKind.i64 (wr IntKind.i64
  (n_1 + (↑(Nat.min (Sl.sub data 1 (Int.toNat (wr IntKind.i64 (imax (f 0) off - off))) (Int.toNat (wr IntKind.i64 (imin (f 1) (wr IntKind.i64 (off + (↑data.2
  : Int))) - off))) data.3).2 (Sl.sub s 1 (Int.toNat (imax (f 0) off)) (Int.toNat (imin (f 1) (wr IntKind.i64 (off + (↑data.2 : Int))))) s.3).2) : Int))),
  SV.int IntKind.i64 n_2, SV.bool b_2])) = some (SV.box b_1 70 (SV.struct [SV.int IntKind.i64 (wr IntKind.i64 (n_1 + (↑(Nat.min (Sl.sub data 1 (Int.toNat
  (wr IntKind.i64 (imax (f 0) off - off))) (Int.toNat (wr IntKind.i64 (imin (f 1) (wr IntKind.i64 (off + (↑data.2 : Int))) - off))) data.3).2 (Sl.sub s 1
  (Int.toNat (imax (f 0) off)) (Int.toNat (imin (f 1) (wr IntKind.i64 (off + (↑data.2 : Int))))) s.3).2) : Int))), SV.int IntKind.i64 n_2, SV.bool b_2]))
  ∧ some (SV.box b_3 128 (SV.arr IntKind.i64 2 f)) = some (SV.box b_3 128 (SV.arr IntKind.i64 2 f)) ∧ J s_1 w1))))))) (some (SV.box b 70 (SV.struct [SV.int
  IntKind.i64 0, SV.int IntKind.i64 0, SV.bool false])) = some (SV.box b 70 (SV.struct [SV.int IntKind.i64 0, SV.int IntKind.i64 0, SV.bool false])) ∧ (b_1,
  70) = (b_1, 70) ∧ J s_1 n_1 n_2 b_2 w1)) → J w1) → deref h fun (a : Addr) => ∃ (s : Sl), World.cell? w1_1 (Addr.add a 1) = some (Sl.val s) ∧ Br (decide
  ((↑s.2 : Int) < wr IntKind.i64 (off + (↑data.2 : Int)))) (deref h fun (a : Addr) => ∃ (s : Sl), World.cell? w1_1 (Addr.add a 1) = some (Sl.val s) ∧ deref
  h fun (a : Addr) => ∃ (s_1 : Sl), World.cell? w1_1 (Addr.add a 1) = some (Sl.val s_1) ∧ ∀ (w1 : World), Upd [] [] w1_1 w1 → Need (decide (0 ≤ wr IntKind.i64
  (wr IntKind.i64 (off + (↑data.2 : Int)) - (↑s_1.2 : Int))) && decide (wr IntKind.i64 (wr IntKind.i64 (off + (↑data.2 : Int)) - (↑s_1.2 : Int)) ≤ 281474976710656)
  && decide (wr IntKind.i64 (wr IntKind.i64 (off + (↑data.2 : Int)) - (↑s_1.2 : Int)) * 1 ≤ 281474976710656)) (AppendN 5 1 1 s (Int.toNat (wr IntKind.i64
  (wr IntKind.i64 (off + (↑data.2 : Int)) - (↑s_1.2 : Int)))) (zerosOf (Ty.int IntKind.u8) (Int.toNat (wr IntKind.i64 (wr IntKind.i64 (off + (↑data.2 : Int))
  - (↑s_1.2 : Int))))) [b] w1 fun (r : Sl) (w : World) => deref h fun (a : Addr) => Store w (Addr.add a 1) (SV.cells (SV.slice r)) [b] fun (w1 : World) =>
  some (SV.box b 70 (SV.struct [SV.int IntKind.i64 0, SV.int IntKind.i64 0, SV.bool false])) = some (SV.box b 70 (SV.struct [SV.int IntKind.i64 0, SV.int
  IntKind.i64 0, SV.bool false])) ∧ J w1)) (some (SV.box b 70 (SV.struct [SV.int IntKind.i64 0, SV.int IntKind.i64 0, SV.bool false])) = some (SV.box b 70
  (SV.struct [SV.int IntKind.i64 0, SV.int IntKind.i64 0, SV.bool false])) ∧ J w1_1))
theorem f49_of (h : Option Addr) (off : Int) (data : Sl) (more : Bool) (w : World) (R : SV → World → Prop) (hV : vc49 h off data more w R) : Ret Try.prog 49 [.ptr h, .int .i64 off, .slice data, .bool more] w R :=
  have e : vc49 h off data more w R = fnVC X Try.f49 a1049 [.ptr h, .int .i64 off, .slice data, .bool more] w R := by kernel_rfl
  fnVC_sound X_ok (n := a1049) (e ▸ hV) (by kernel_rfl) (by kernel_rfl) rfl rfl

def vc53 (h : Option Addr) (w : World) (R : SV → World → Prop) : Prop :=
  deref h fun (a : Addr) =>
    ∃ (n : Int),
      World.cell? w (Addr.add a 3) = some (Value.int IntKind.i64 n) ∧
        Br (decide (n ≥ 0)) (deref h fun (a : Addr) => ∃ (s : Sl), World.cell? w (Addr.add a 2) = some (Sl.val s) ∧ R (SV.bool ((↑s.2 : Int) == 0)) w) (R (SV.bool false) w)
theorem f53_of (h : Option Addr) (w : World) (R : SV → World → Prop) (hV : vc53 h w R) : Ret Try.prog 53 [.ptr h] w R :=
  have e : vc53 h w R = fnVC X Try.f53 a53 [.ptr h] w R := by kernel_rfl
  fnVC_sound X_ok (n := a53) (e ▸ hV) (by kernel_rfl) (by kernel_rfl) rfl rfl

def vc28 (h : Option Addr) (w : World) (R : SV → World → Prop) : Prop :=
  Ret Try.prog 53 [SV.ptr h] w fun (r : SV) (w1 : World) =>
    ∃ (b : Bool),
      r = SV.bool b ∧
        Br (!b) (R (SV.tuple [SV.slice { ptr := none, len := 0, cap := 0 }, SV.bool false]) w1)
          (deref h fun (a : Addr) =>
            ∃ (s : Sl),
              World.cell? w1 (Addr.add a 1) = some (Sl.val s) ∧
                deref h fun (a : Addr) =>
                  ∃ (n : Int),
                    World.cell? w1 (Addr.add a 3) = some (Value.int IntKind.i64 n) ∧
                      Need (decide (0 ≤ n) && decide (n ≤ (↑s.3 : Int)))
                        (∀ (w1_1 : World),
                          Upd [] [] w1 w1_1 →
                            Ret Try.prog 54 [SV.slice (Sl.sub s 1 0 (Int.toNat n) s.3)] w1_1 fun (r : SV) (w1 : World) =>
                              ∃ (s : Sl), r = SV.slice s ∧ R (SV.tuple [SV.slice s, SV.bool true]) w1))
theorem f28_of (h : Option Addr) (w : World) (R : SV → World → Prop) (hV : vc28 h w R) : Ret Try.prog 28 [.ptr h] w R :=
  have e : vc28 h w R = fnVC X Try.f28 a28 [.ptr h] w R := by kernel_rfl
  fnVC_sound X_ok (n := a28) (e ▸ hV) (by kernel_rfl) (by kernel_rfl) rfl rfl

def vc54 (s : Sl) (w : World) (R : SV → World → Prop) : Prop :=
  Br (Option.isNone s.1) (R (SV.slice { ptr := none, len := 0, cap := 0 }) w)
    (∀ (b : Nat) (w1 : World),
      Upd [] [b] w w1 →
        (World.heap w1)[b]? = some (Obj.cells { toList := SV.cells (SV.struct []) } 5) →
          Vc.Append 5 1 1 { ptr := some { block := b, off := 0 }, len := 0, cap := 0 } s [] w1 fun (r : Sl) (w : World) => R (SV.slice r) w)
theorem f54_of (s : Sl) (w : World) (R : SV → World → Prop) (hV : vc54 s w R) : Ret Try.prog 54 [.slice s] w R :=
  have e : vc54 s w R = fnVC X Try.f54 a54 [.slice s] w R := by kernel_rfl
  fnVC_sound X_ok (n := a54) (e ▸ hV) (by kernel_rfl) (by kernel_rfl) rfl rfl

def vc61 (h : Option Addr) (off : Int) (data : Sl) (more : Bool) (w : World) (R : SV → World → Prop) : Prop :=
  Br (decide ((↑data.2 : Int) > 65535)) (R (SV.int IntKind.i64 2) w)
    (∀ (J : Bool → World → Prop),
      (∀ (b : Bool) (w1 : World),
          Br b (R (SV.int IntKind.i64 110) w1)
              (Br ((↑data.2 : Int) == 0) (R (SV.int IntKind.i64 111) w1)
                (deref h fun (a : Addr) =>
                  ∃ (n : Int),
                    World.cell? w1 a = some (Value.int IntKind.i64 n) ∧
                      Br (decide (off > n)) (R (SV.int IntKind.i64 112) w1)
                        (deref h fun (a : Addr) =>
                          ∃ (n : Int),
                            World.cell? w1 a = some (Value.int IntKind.i64 n) ∧
                              Br (decide (wr IntKind.i64 (off + (↑data.2 : Int)) > n)) (R (SV.int IntKind.i64 112) w1)
                                (∀ (J : Bool → World → Prop),
                                  (∀ (b : Bool) (w1 : World),
                                      Br b (R (SV.int IntKind.i64 114) w1)
                                          (∀ (J : Bool → World → Prop),
                                            (∀ (b : Bool) (w1 : World),
                                                Br b (R (SV.int IntKind.i64 113) w1)
                                                    (deref h fun (a : Addr) =>
                                                      ∃ (n : Int),
                                                        World.cell? w1 (Addr.add a 3) = some (Value.int IntKind.i64 n) ∧
                                                          Br (decide (n < 0))
                                                            (Br (!more)
                                                              (Ret Try.prog 68 [SV.ptr h] w1 fun (r : SV) (w1 : World) =>
                                                                ∃ (n : Int),
                                                                  r = SV.int IntKind.i64 n ∧
                                                                    Br (decide (n > wr IntKind.i64 (off + (↑data.2 : Int)))) (R (SV.int IntKind.i64 114) w1)
                                                                      (R (SV.int IntKind.i64 0) w1))
                                                              (R (SV.int IntKind.i64 0) w1))
                                                            (R (SV.int IntKind.i64 0) w1)) →
                                                  J b w1) →
                                              deref h fun (a : Addr) =>
                                                ∃ (n : Int),
                                                  World.cell? w1 (Addr.add a 3) = some (Value.int IntKind.i64 n) ∧
                                                    Br (decide (n ≥ 0))
                                                      (Br more
                                                        (deref h fun (a : Addr) =>
                                                          ∃ (n : Int),
                                                            World.cell? w1 (Addr.add a 3) = some (Value.int IntKind.i64 n) ∧
                                                              J (decide (wr IntKind.i64 (off + (↑data.2 : Int)) > n)) w1)
                                                        (J false w1))
                                                      (J false w1)) →
                                        J b w1) →
                                    deref h fun (a : Addr) =>
                                      ∃ (n : Int),
                                        World.cell? w1 (Addr.add a 3) = some (Value.int IntKind.i64 n) ∧
                                          Br (decide (n ≥ 0))
                                            (Br (!more)
                                              (deref h fun (a : Addr) =>
                                                ∃ (n : Int), World.cell? w1 (Addr.add a 3) = some (Value.int IntKind.i64 n) ∧ J (wr IntKind.i64 (off + (↑data.2 : Int)) != n) w1)
                                              (J false w1))
                                            (J false w1))))) →
            J b w1) →
        Br (decide (off < 0)) (J true w) (Br (Int.tmod off 8 != 0) (J true w) (Br more (J (Int.tmod (↑data.2 : Int) 8 != 0) w) (J false w))))
theorem f61_of (h : Option Addr) (off : Int) (data : Sl) (more : Bool) (w : World) (R : SV → World → Prop) (hV : vc61 h off data more w R) : Ret Try.prog 61 [.ptr h, .int .i64 off, .slice data, .bool more] w R :=
  have e : vc61 h off data more w R = fnVC X Try.f61 a61 [.ptr h, .int .i64 off, .slice data, .bool more] w R := by kernel_rfl
  fnVC_sound X_ok (n := a61) (e ▸ hV) (by kernel_rfl) (by kernel_rfl) rfl rfl

def vc62 (a : Sl) (b : Sl) (w : World) (R : SV → World → Prop) : Prop :=
  BytesStr w a fun (b_1 : ByteArray) => BytesStr w b fun (b : ByteArray) => R (SV.bool (b_1 == b)) w
theorem f62_of (a : Sl) (b : Sl) (w : World) (R : SV → World → Prop) (hV : vc62 a b w R) : Ret Try.prog 62 [.slice a, .slice b] w R :=
  have e : vc62 a b w R = fnVC X Try.f62 a62 [.slice a, .slice b] w R := by kernel_rfl
  fnVC_sound X_ok (n := a62) (e ▸ hV) (by kernel_rfl) (by kernel_rfl) rfl rfl

def vc68 (h : Option Addr) (w : World) (R : SV → World → Prop) : Prop :=
  deref h fun (a : Addr) =>
    ∃ (s : Sl),
      World.cell? w (Addr.add a 2) = some (Sl.val s) ∧
        Br ((↑s.2 : Int) == 0) (deref h fun (a : Addr) => ∃ (n : Int), World.cell? w a = some (Value.int IntKind.i64 n) ∧ R (SV.int IntKind.i64 n) w)
          (deref h fun (a : Addr) =>
            ∃ (s_1 : Sl),
              World.cell? w (Addr.add a 2) = some (Sl.val s_1) ∧
                Need (decide (0 ≤ wr IntKind.i64 ((↑s.2 : Int) - 1)) && decide (wr IntKind.i64 ((↑s.2 : Int) - 1) < (↑s_1.2 : Int)) && Option.isSome s_1.1)
                  (∃ (f : Nat → Int),
                    (∀ (i : Nat), i < 2 → World.cell? w (Addr.add (Sl.at s_1 2 (Int.toNat (wr IntKind.i64 ((↑s.2 : Int) - 1)))) (0 + i)) = some (Value.int IntKind.i64 (f i))) ∧
                      ∀ (b : Nat),
                        deref h fun (a : Addr) =>
                          ∃ (n : Int),
                            World.cell? w a = some (Value.int IntKind.i64 n) ∧
                              Br (f 1 == n) (∀ (w1 : World), Upd [] [b] w w1 → R (SV.int IntKind.i64 (f 0)) w1)
                                (deref h fun (a : Addr) =>
                                  ∃ (n : Int), World.cell? w a = some (Value.int IntKind.i64 n) ∧ ∀ (w1 : World), Upd [] [b] w w1 → R (SV.int IntKind.i64 n) w1)))
theorem f68_of (h : Option Addr) (w : World) (R : SV → World → Prop) (hV : vc68 h w R) : Ret Try.prog 68 [.ptr h] w R :=
  have e : vc68 h w R = fnVC X Try.f68 a68 [.ptr h] w R := by kernel_rfl
  fnVC_sound X_ok (n := a68) (e ▸ hV) (by kernel_rfl) (by kernel_rfl) rfl rfl

end Go.Vc.Stop
end

section
namespace Go.Vc
set_option linter.unusedVariables false
set_option linter.unusedSimpArgs false
set_option autoImplicit false

/-- a slice of slices of bytes -/
structure Parts (w : World) (s : Sl) (ls : List (List Int)) (ss : List Sl) : Prop where
  row : Sees cSl w s ss
  len : ss.length = ls.length
  each : ∀ i (h : i < ls.length), SeesB w (ss[i]'(by rw [len]; exact h)) ls[i]

section
variable {w w1 : World} {s : Sl} {ls : List (List Int)} {ss : List Sl}
theorem Parts.slen (h : Parts w s ls ss) : s.len = ls.length := by rw [h.row.len, h.len]
theorem Parts.get (h : Parts w s ls ss) {i : Int} (h0 : 0 ≤ i) (hi : i < ls.length) : ∃ (h1 : i.toNat < ss.length) (h2 : i.toNat < ls.length),
    w.cell? (s.at 1 i.toNat) = some (ss[i.toNat]).val ∧ SeesB w ss[i.toNat] ls[i.toNat] ∧ s.ptr.isSome = true := by
  have h2 : i.toNat < ls.length := by omega
  have h1 : i.toNat < ss.length := by rw [h.len]; exact h2
  refine ⟨h1, h2, ?_, h.each _ h2, h.row.isSome (by decide) (by omega)⟩
  have := h.row.elem h1 0 (by simp [cSl])
  rw [add_zero] at this
  exact this
end

theorem take_snoc {α : Type} {l : List α} {k : Nat} (h : k < l.length) : l.take (k + 1) = l.take k ++ [l[k]] := List.take_succ_eq_append_getElem h
theorem flat_snoc {α : Type} {ls : List (List α)} {k : Nat} (h : k < ls.length) : (ls.take (k + 1)).flatten = (ls.take k).flatten ++ ls[k] := by rw [take_snoc h, List.flatten_append]; simp
theorem flat_le {α : Type} (ls : List (List α)) (k : Nat) : (ls.take k).flatten.length ≤ ls.flatten.length := by
  have := congrArg List.length (List.take_append_drop k ls ▸ List.flatten_append (L₁ := ls.take k) (L₂ := ls.drop k))
  rw [List.length_append] at this
  have h2 : (List.take k ls ++ List.drop k ls).flatten.length = ls.flatten.length := by rw [List.take_append_drop]
  omega
theorem byt_flat {ls : List (List Int)} (h : ∀ l ∈ ls, Byt l) : Byt ls.flatten := fun x hx => by
  obtain ⟨l, hl, hx⟩ := List.mem_flatten.1 hx
  exact h l hl x hx
theorem byt_flat_take {ls : List (List Int)} (h : ∀ l ∈ ls, Byt l) (k : Nat) : Byt (ls.take k).flatten := byt_flat fun l hl => h l (List.mem_of_mem_take hl)
theorem bt_nat {l : List Int} {i : Nat} (h : i < l.length) : bt l (i : Int) = l[i] := by simp [bt, h]
/-- all of w's blocks but m's stand; what has been read of a slice stands -/
theorem needB {X : Prop} {w : World} {s : Sl} {l : List Int} (h : SeesB w s l) {i : Int} (h0 : 0 ≤ i) (h1 : i < l.length) (x : X) : Need (decide (0 ≤ i) && decide (i < (s.len : Int)) && s.ptr.isSome) X :=
  needIx h0 (by rw [h.len]; exact h1) (h.isSome (by decide) (by omega)) x
theorem needP {X : Prop} {w : World} {s : Sl} {ls : List (List Int)} {ss : List Sl} (h : Parts w s ls ss) {i : Int} (h0 : 0 ≤ i) (h1 : i < ls.length) (x : X) : Need (decide (0 ≤ i) && decide (i < (s.len : Int)) && s.ptr.isSome) X :=
  needIx h0 (by rw [h.slen]; exact h1) (h.get h0 h1).2.2.2.2 x
/-- a row that was just made of bytes -/
theorem rowB {w : World} {b e n cap : Nat} {f : Nat × Nat} {cs : List Value} (h : w.heap[b]? = some (.cells cs.toArray e f)) (l : List Int) (hl : cs = cU8.cells l) (hn : n = l.length) : SeesB w ⟨some ⟨b, 0, none⟩, n, cap⟩ l := sees_row h l hl hn
def AllB (w : World) : List Sl → List (List Int) → Prop
  | [], [] => True
  | s :: r, l :: q => SeesB w s l ∧ AllB w r q
  | _, _ => False
theorem AllB.len {w : World} : ∀ {ss : List Sl} {ls : List (List Int)}, AllB w ss ls → ss.length = ls.length
  | [], [], _ => rfl
  | _ :: _, _ :: _, h => by simp [AllB.len h.2]
  | [], _ :: _, h => h.elim
  | _ :: _, [], h => h.elim
theorem AllB.get {w : World} : ∀ {ss : List Sl} {ls : List (List Int)} (h : AllB w ss ls) (i : Nat) (hi : i < ls.length), SeesB w (ss[i]'(by rw [h.len]; exact hi)) ls[i]
  | _ :: _, _ :: _, h, 0, _ => h.1
  | _ :: _, _ :: _, h, i + 1, hi => AllB.get h.2 i (by simpa using hi)
  | [], _ :: _, h, _, _ => h.elim
/-- a row that was just made of slices -/
theorem rowP {w : World} {b e n cap : Nat} {f : Nat × Nat} {cs : List Value} {ss : List Sl} {ls : List (List Int)} (h : w.heap[b]? = some (.cells cs.toArray e f)) (hl : cs = cSl.cells ss) (hn : n = ss.length) (ha : AllB w ss ls) :
    Parts w ⟨some ⟨b, 0, none⟩, n, cap⟩ ls ss := ⟨sees_row h ss hl hn, ha.len, ha.get⟩
end Go.Vc
end

section
namespace Go.Vc
set_option linter.unusedVariables false
set_option linter.unusedSimpArgs false
set_option autoImplicit false

/-! ### bytes out of a row, arrays -/
/-- bytes within a row -/
theorem rowMid {w : World} {b e n cap o : Nat} {f : Nat × Nat} {cs : List Value} (h : w.heap[b]? = some (.cells cs.toArray e f)) (pre post : List Value) (l : List Int) (hl : cs = pre ++ cU8.cells l ++ post) (ho : o = pre.length) (hn : n = l.length) :
    SeesB w ⟨some ⟨b, o, none⟩, n, cap⟩ l := by
  subst hl ho hn
  refine ⟨rfl, fun i hi => ?_⟩
  rw [add_none, cell_of_block h]
  simp [List.getElem?_append_right, List.getElem?_append_left, hi]
def arrL (n : Nat) (f : Nat → Int) : List Int := (List.range n).map f
theorem arrL_len (n : Nat) (f : Nat → Int) : (arrL n f).length = n := by simp [arrL]
theorem eqArr_iff {n : Nat} {f g : Nat → Int} : eqArr n f g = true ↔ ∀ i, i < n → f i = g i := by
  unfold eqArr
  simp
/-! ### loops that many functions have -/
section
variable {w : World} {s : Sl} {l : List Int}
end
end Go.Vc
end

section
namespace Go.Vc
set_option linter.unusedVariables false
set_option linter.unusedSimpArgs false
set_option autoImplicit false
theorem arrL_succ (n : Nat) (f : Nat → Int) : arrL (n + 1) f = arrL n f ++ [f n] := by simp [arrL, List.range_succ]
end Go.Vc
end

section
namespace Go.Vc
set_option linter.unusedVariables false
set_option linter.unusedSimpArgs false
set_option autoImplicit false
end Go.Vc
namespace Go.Vc
theorem zeros_cells (m : Nat) : zerosOf (.int .u8) m = cU8.cells (List.replicate m 0) := by
  rw [Cod.cells_map1 (fun _ => rfl)]
  unfold zerosOf
  induction m with
  | zero => rfl
  | succ m ih => rw [List.replicate_succ, List.flatten_cons, ih, List.replicate_succ]; rfl
end Go.Vc
end

section
namespace Go.Vc
set_option linter.unusedVariables false
set_option linter.unusedSimpArgs false
set_option autoImplicit false
section
variable {α : Type} {c : Cod α} {w w1 : World} {s : Sl} {l : List α}
end
end Go.Vc
end

section
namespace Go.Vc
set_option linter.unusedVariables false
set_option linter.unusedSimpArgs false
set_option autoImplicit false
end Go.Vc
end

section
namespace Go.Vc
set_option linter.unusedVariables false
set_option linter.unusedSimpArgs false
set_option autoImplicit false
theorem byteC {w : World} {s : Sl} {l : List Int} (h : SeesB w s l) (i : Nat) (hi : i < l.length) : w.cell? (s.at 1 i) = some (.int .u8 (bt l i)) := by
  have := h.byte (i := (i : Int)) (by omega) (by omega)
  rwa [Int.toNat_natCast] at this
theorem kp {bs : List Nat} {w w1 : World} {n : List Nat} (u : Upd [] n w w1) : Keeps bs w w1 := .inl u.forget
/-- blocks that stood, kept -/
theorem kpm {bs m n : List Nat} {w w1 : World} (u : Upd m n w w1) (h : ∀ b ∈ bs, b < w.heap.size) (hd : ∀ b ∈ bs, b ∉ m) : Keeps bs w w1 := .inr fun b hb => u.keep b (h b hb) (hd b hb)
end Go.Vc
end

section
namespace Go.Vc
open Go.ChangeShapes Go.WideShapes Go.ChangeAt Go.RowKit
set_option linter.unusedVariables false
set_option linter.unusedSimpArgs false
set_option autoImplicit false

/-! ### an argument that can be read as data, in the words of SV -/
mutual
def Ty.rd (f : Nat → Bool) : Ty → Bool
  | .int _ => true | .bool => true | .str => true | .arr _ _ => true
  | .slice e => f e
  | .struct _ ts => Ty.rds f ts
  | _ => false
def Ty.rds (f : Nat → Bool) : List Ty → Bool
  | [] => true
  | t :: r => t.rd f && Ty.rds f r
end
def rdN (X : Tab) : Nat → Nat → Bool
  | 0, _ => false
  | n + 1, t => (X.T t).rd (rdN X n)

section
variable {H : Type}
def All3 (R : Ty → SV → DataW H → Prop) : List Ty → List SV → List (DataW H) → Prop
  | [], [], [] => True
  | t :: ts, x :: xs, d :: ds => R t x d ∧ All3 R ts xs ds
  | _, _, _ => False

def Deep (X : Tab) (w : World) : Nat → Ty → SV → DataW H → Prop
  | 0, _, _, _ => False
  | m + 1, t, sv, d => match t with
    | .int k => ∃ n, sv = .int k n ∧ d = .lit (.int k n) ∧ (Lit.int k n).wf = true
    | .bool => ∃ b, sv = .bool b ∧ d = .lit (.bool b)
    | .str => ∃ s : ByteArray, sv = .str s ∧ d = .lit (.string s.data.toList) ∧ s.size ≤ maxLen
    | .arr k n => ∃ (f : Nat → Int) (l : List (DataW H)), sv = .arr k n f ∧ d = .agg l ∧ l.length = n ∧ ∀ i, i < n → l[i]? = some (.lit (.int k (f i))) ∧ (Lit.int k (f i)).wf = true
    | .struct _ ts => ∃ fs l, sv = .struct fs ∧ d = .agg l ∧ All3 (Deep X w m) ts fs l
    | .slice e => (sv = .slice ⟨none, 0, 0⟩ ∧ d = .nil) ∨ ∃ (a : Addr) (len cap : Nat) (vs : List SV) (ds : List (DataW H)), sv = .slice ⟨some a, len, cap⟩ ∧ d = .slice (ds.take len) (ds.drop len) ∧
        len ≤ cap ∧ cap ≤ maxLen ∧ vs.length = cap ∧ ds.length = cap ∧
        ∀ i sv d, vs[i]? = some sv → ds[i]? = some d → sv.shape (X.T e) = true ∧ Cells w (some (a.add (i * (X.T e).size))) sv.cells ∧ Deep X w m (X.T e) sv d
    | _ => False

variable {X : Tab} (ok : TabOK X) {enc : TypeId × Value → H} {w : World}
include ok in
theorem cellsOf_eq {t : Nat} (ht : isData (X.T t) = true) : X.P.cellsOf t = (X.T t).size := by
  obtain ⟨i, h1, h2, _⟩ := ok.info t ht
  simp [Program.cellsOf, h1, h2]

theorem rd_data {f : Nat → Bool} {t : Ty} (h : t.rd f = true) : isData t = true := by cases t <;> simp [Ty.rd] at h <;> rfl

theorem drop_take_split {cs : List Value} {o n : Nat} (h : o + n ≤ cs.length) : cs.drop o = (cs.drop o).take n ++ cs.drop (o + n) := by
  rw [← List.drop_drop, List.take_append_drop]

include ok in
theorem fields_deep {fuel m : Nat} {cs : List Value} {xs : List (DataW H × List MemPlace)}
    (ih : ∀ t cs d ps, (X.T t).rd (rdN X m) = true → DataW.trod enc X.P w 0 (fun _ => true) true fuel t cs = some (d, ps) → ∃ sv, cs = sv.cells ∧ sv.shape (X.T t) = true ∧ Deep X w fuel (X.T t) sv d) :
    ∀ (fs : List Field) (ts : List Ty) (off : Nat) (k : Nat), fieldsOK X fs ts off → Ty.rds (rdN X m) ts = true → xs.length = k + fs.length → cs.length = off + Ty.sizes ts →
    (∀ i f, fs[i]? = some f → DataW.trod enc X.P w 0 (fun _ => true) true fuel f.type (List.take (X.P.cellsOf f.type) (List.drop f.offset cs)) = xs[k + i]?) →
    ∃ svs, cs.drop off = SV.cellsL svs ∧ SV.shapes svs ts = true ∧ All3 (Deep X w fuel) ts svs ((xs.drop k).map (·.1))
  | [], [], off, k, _, _, hx, hc, _ => by
    simp [Ty.sizes] at hc hx
    exact ⟨[], by simp [SV.cellsL, hc], rfl, by rw [List.drop_of_length_le (by omega)]; exact trivial⟩
  | f :: fr, t :: tr, off, k, hf, hr, hx, hc, hk => by
    obtain ⟨h1, rfl, _, h4⟩ := hf
    simp only [Ty.rds, Bool.and_eq_true] at hr
    have hsz := cellsOf_eq ok (rd_data hr.1)
    simp only [Ty.sizes] at hc
    simp at hx
    have h0 := hk 0 f rfl
    rw [hsz, h1] at h0
    have hlt : k < xs.length := by omega
    rw [Nat.add_zero, List.getElem?_eq_getElem hlt] at h0
    obtain ⟨sv, e1, e2, e3⟩ := ih f.type _ _ _ hr.1 h0
    obtain ⟨svs, g1, g2, g3⟩ := fields_deep (cs := cs) (xs := xs) ih fr tr (off + (X.T f.type).size) (k + 1) h4 hr.2 (by omega) (by omega) (fun i g hg => by
      have := hk (i + 1) g (by simpa using hg)
      rwa [show k + 1 + i = k + (i + 1) by omega])
    refine ⟨sv :: svs, ?_, by simp [SV.shapes, e2, g2], ?_⟩
    · rw [drop_take_split (cs := cs) (o := off) (n := (X.T f.type).size) (by omega), e1, g1]
      rfl
    · rw [List.drop_eq_getElem_cons hlt]
      exact ⟨e3, g3⟩
  | [], _ :: _, _, _, hf, _, _, _, _ => by simp [fieldsOK] at hf
  | _ :: _, [], _, _, hf, _, _, _, _ => by simp [fieldsOK] at hf

include ok in
theorem elems_deep {fuel m e n : Nat} {cs : List Value} {xs : List (DataW H × List MemPlace)}
    (ih : ∀ t cs d ps, (X.T t).rd (rdN X m) = true → DataW.trod enc X.P w 0 (fun _ => true) true fuel t cs = some (d, ps) → ∃ sv, cs = sv.cells ∧ sv.shape (X.T t) = true ∧ Deep X w fuel (X.T t) sv d)
    (hr : (X.T e).rd (rdN X m) = true) (hx : xs.length = n) (hk : ∀ i, i < n → DataW.trod enc X.P w 0 (fun _ => true) true fuel e (List.take (X.P.cellsOf e) (List.drop (i * X.P.cellsOf e) cs)) = xs[i]?) :
    ∀ (j k : Nat), k + j = n → cs.length = n * (X.T e).size → 
    ∃ svs, cs.drop (k * (X.T e).size) = SV.cellsL svs ∧ SV.shapes svs (List.replicate j (X.T e)) = true ∧ All3 (Deep X w fuel) (List.replicate j (X.T e)) svs ((xs.drop k).map (·.1))
  | 0, k, hn, hc => by
    have : k = n := by omega
    subst this
    exact ⟨[], by simp [SV.cellsL, hc], rfl, by rw [List.drop_of_length_le (by omega)]; exact trivial⟩
  | j + 1, k, hn, hc => by
    have hsz := cellsOf_eq ok (rd_data hr)
    have hlt : k < xs.length := by omega
    have h0 := hk k (by omega)
    rw [hsz, List.getElem?_eq_getElem hlt] at h0
    obtain ⟨sv, e1, e2, e3⟩ := ih e _ _ _ hr h0
    obtain ⟨svs, g1, g2, g3⟩ := elems_deep ih hr hx hk j (k + 1) (by omega) hc
    have hm : (k + 1) * (X.T e).size ≤ n * (X.T e).size := Nat.mul_le_mul_right _ (by omega)
    rw [Nat.add_mul] at hm g1
    refine ⟨sv :: svs, ?_, by simp [List.replicate_succ, SV.shapes, e2, g2], ?_⟩
    · rw [drop_take_split (cs := cs) (o := k * (X.T e).size) (n := (X.T e).size) (by omega), e1]
      rw [Nat.one_mul] at g1
      rw [g1]; rfl
    · rw [List.drop_eq_getElem_cons hlt, List.replicate_succ]
      exact ⟨e3, g3⟩

theorem all3_ints {R : Ty → SV → DataW H → Prop} {k : IntKind} (hR : ∀ sv d, R (.int k) sv d → ∃ n, sv = .int k n ∧ d = .lit (.int k n) ∧ (Lit.int k n).wf = true) :
    ∀ (n : Nat) (svs : List SV) (ds : List (DataW H)), All3 R (List.replicate n (.int k)) svs ds →
    ∃ f : Nat → Int, SV.cellsL svs = (List.range n).map (fun i => .int k (f i)) ∧ ds.length = n ∧ ∀ i, i < n → ds[i]? = some (.lit (.int k (f i))) ∧ (Lit.int k (f i)).wf = true
  | 0, [], [], _ => ⟨fun _ => 0, by simp [SV.cellsL], rfl, by simp⟩
  | n + 1, sv :: svs, d :: ds, h => by
    rw [List.replicate_succ] at h
    obtain ⟨h1, h2⟩ := h
    obtain ⟨x, rfl, rfl, hw⟩ := hR _ _ h1
    obtain ⟨f, g1, g2, g3⟩ := all3_ints hR n svs ds h2
    refine ⟨fun i => if i = 0 then x else f (i - 1), ?_, by simp [g2], ?_⟩
    · rw [List.range_succ_eq_map, SV.cellsL, g1]
      simp [SV.cells, Function.comp_def]
    · intro i hi
      cases i with
      | zero => simp [hw]
      | succ i => simpa using g3 i (by omega)
  | 0, [], _ :: _, h => by simp [All3] at h
  | 0, _ :: _, _, h => by simp [All3] at h
  | n + 1, [], _, h => by simp [List.replicate_succ, All3] at h
  | n + 1, _ :: _, [], h => by simp [List.replicate_succ, All3] at h

include ok in
theorem deep_of_trod : ∀ (fuel m : Nat) (t : Nat) (cs : List Value) (d : DataW H) (ps : List MemPlace), (X.T t).rd (rdN X m) = true → DataW.trod enc X.P w 0 (fun _ => true) true fuel t cs = some (d, ps) →
    ∃ sv, cs = sv.cells ∧ sv.shape (X.T t) = true ∧ Deep X w fuel (X.T t) sv d := by
  intro fuel
  induction fuel with
  | zero => intro m t cs d ps _ h; simp [DataW.trod] at h
  | succ fuel ih =>
    intro m t cs d ps hr h
    have hty := ok.ty t
    have hsz := cellsOf_eq ok (rd_data hr)
    cases hT : X.T t with
    | int k =>
      rw [hT] at hty
      obtain ⟨n, rfl, hx, hw⟩ := DataW.trod_int (t := t) hty h
      simp at hx
      exact ⟨.int k n, rfl, by simp [SV.shape, ksame_refl], by simp only [Deep]; exact ⟨n, rfl, hx.1, hw⟩⟩
    | bool =>
      rw [hT] at hty
      obtain ⟨n, rfl, hx⟩ := DataW.trod_bool (t := t) hty h
      simp at hx
      exact ⟨.bool n, rfl, by simp [SV.shape], by simp only [Deep]; exact ⟨n, rfl, hx.1⟩⟩
    | str =>
      rw [hT] at hty
      obtain ⟨n, rfl, hx, hw⟩ := DataW.trod_string (t := t) hty h
      simp at hx
      exact ⟨.str n, rfl, by simp [SV.shape], by simp only [Deep]; exact ⟨n, rfl, hx.1, hw⟩⟩
    | arr k n =>
      rw [hT] at hty hsz
      obtain ⟨e, hu, he⟩ := hty
      obtain ⟨xs, m', hm', hx, hlen, hxs, hk⟩ := DataW.trod_array hu h
      have hm'' : fuel = m' := by omega
      subst hm''
      simp only [Prod.mk.injEq] at hx
      have hee : (X.T e).rd (rdN X m) = true := by rw [he]; rfl
      obtain ⟨svs, g1, g2, g3⟩ := elems_deep ok (ih m) hee hxs hk n 0 (by omega) (by rw [hlen, hsz, he]; simp [Ty.size])
      rw [he] at g3
      obtain ⟨f, q1, q2, q3⟩ := all3_ints (fun sv d hd => by
        cases fuel with
        | zero => simp [Deep] at hd
        | succ q => simpa only [Deep] using hd) n svs _ g3
      refine ⟨.arr k n f, ?_, by simp [SV.shape, ksame_refl], ?_⟩
      · simp at g1; rw [g1, q1]; rfl
      · simp only [Deep]
        exact ⟨f, _, rfl, hx.1, by simpa using q2, by simpa using q3⟩
    | struct b ts =>
      rw [hT] at hty hsz hr
      cases b with
      | false =>
        obtain ⟨fs, hu, hfo, _⟩ := hty
        obtain ⟨xs, m', hm', hx, hlen, hxs, hk⟩ := DataW.trod_struct hu h
        have hm'' : fuel = m' := by omega
        subst hm''
        simp only [Prod.mk.injEq] at hx
        obtain ⟨svs, g1, g2, g3⟩ := fields_deep ok (ih m) fs.toList ts 0 0 hfo (by simpa only [Ty.rd] using hr) (by simpa using hxs) (by rw [hlen, hsz]; simp [Ty.size]) (fun i f hf => by simpa using hk i f (by simpa using hf))
        refine ⟨.struct svs, by simpa [SV.cells] using g1, by simpa [SV.shape] using g2, ?_⟩
        simp only [Deep]
        exact ⟨svs, _, rfl, hx.1, by simpa using g3⟩
      | true =>
        obtain ⟨n, e, hu, rfl, hde⟩ := hty
        obtain ⟨xs, m', hm', hx, hlen, hxs, hk⟩ := DataW.trod_array hu h
        have hm'' : fuel = m' := by omega
        subst hm''
        simp only [Prod.mk.injEq] at hx
        have hss : ∀ n : Nat, Ty.sizes (List.replicate n (X.T e)) = n * (X.T e).size := by
          intro n
          induction n with
          | zero => simp [Ty.sizes]
          | succ n ihn => rw [List.replicate_succ, Ty.sizes, ihn, Nat.add_mul]; omega
        cases n with
        | zero =>
          have : cs = [] := by
            rw [hsz] at hlen
            simp [Ty.size, Ty.sizes] at hlen
            exact hlen
          subst this
          have hx0 : xs = [] := by simpa using hxs
          subst hx0
          exact ⟨.struct [], rfl, rfl, by simp only [Deep]; exact ⟨[], _, rfl, hx.1, by simp [All3]⟩⟩
        | succ n =>
          have hee : (X.T e).rd (rdN X m) = true := by simp only [Ty.rd, List.replicate_succ, Ty.rds, Bool.and_eq_true] at hr; exact hr.1
          obtain ⟨svs, g1, g2, g3⟩ := elems_deep ok (ih m) hee hxs hk (n + 1) 0 (by omega) (by rw [hlen, hsz, Ty.size, hss])
          refine ⟨.struct svs, by simpa [SV.cells] using g1, by simpa [SV.shape] using g2, ?_⟩
          simp only [Deep]
          exact ⟨svs, _, rfl, hx.1, by simpa using g3⟩
    | slice e =>
      rw [hT] at hty hsz hr
      have hre : rdN X m e = true := by simpa only [Ty.rd] using hr
      cases m with
      | zero => simp [rdN] at hre
      | succ m =>
        simp only [rdN] at hre
        have hse := cellsOf_eq ok (rd_data hre)
        rcases DataW.trod_slice (t := t) hty h with ⟨rfl, hx⟩ | ⟨a, len, cap, elems, rest, n, hn, rfl, hx, _, hl, hm, hel, hk, hsp, _⟩
        · simp at hx
          exact ⟨.slice ⟨none, 0, 0⟩, rfl, rfl, by unfold Deep; exact .inl ⟨rfl, hx.1⟩⟩
        · have hn' : fuel = n := by omega
          subst hn'
          obtain ⟨hrl, hrk⟩ := hsp rfl
          simp only [Prod.mk.injEq] at hx
          have each : ∀ i, i < cap → ∃ sv, sv.shape (X.T e) = true ∧ Cells w (some (a.add (i * (X.T e).size))) sv.cells ∧ ∃ d, ((elems ++ rest).map (·.1))[i]? = some d ∧ Deep X w fuel (X.T e) sv d := by
            intro i hi
            have hb : (w.cells? 0 (a.add (i * X.P.cellsOf e)) (X.P.cellsOf e)).bind (DataW.trod enc X.P w 0 (fun _ => true) true fuel e) = (elems ++ rest)[i]? := by
              by_cases hil : i < len
              · rw [hk i hil, List.getElem?_append_left (by omega)]
              · have := hrk (i - len) (by omega)
                rw [show len + (i - len) = i by omega] at this
                rw [this, List.getElem?_append_right (by omega), hel]
            have hlt : i < (elems ++ rest).length := by simp; omega
            rw [List.getElem?_eq_getElem hlt, Option.bind_eq_some_iff] at hb
            obtain ⟨cs', hcs, hy⟩ := hb
            obtain ⟨sv, e1, e2, e3⟩ := ih m e cs' _ _ hre hy
            refine ⟨sv, e2, ?_, _, by rw [List.getElem?_map, List.getElem?_eq_getElem hlt]; rfl, e3⟩
            rw [hse] at hcs
            obtain ⟨_, c2, c3⟩ := World.cells?_some hcs
            intro j hj
            rw [c3 j (by rw [← c2, e1]; exact hj), e1]
            simp [hj]
          have hds : ((elems ++ rest).map (·.1)).length = cap := by simp; omega
          let vs : List SV := (List.range cap).map fun i => if hi : i < cap then Classical.choose (each i hi) else .bool true
          refine ⟨.slice ⟨some a, len, cap⟩, rfl, rfl, ?_⟩
          simp only [Deep]
          refine .inr ⟨a, len, cap, vs, (elems ++ rest).map (·.1), rfl, ?_, hl, hm, by simp [vs], hds, ?_⟩
          · rw [hx.1, ← hel, ← (show (elems.map (·.1)).length = elems.length by simp), List.map_append, List.take_left, List.drop_left]
          · intro i sv d h1 h2
            have hi : i < cap := by
              have := (List.getElem?_eq_some_iff.1 h1).1
              simpa [vs] using this
            have hsv : sv = Classical.choose (each i hi) := by
              have : vs[i]? = some (Classical.choose (each i hi)) := by simp [vs, hi]
              rw [this] at h1
              simpa using h1.symm
            obtain ⟨k1, k2, d', k3, k4⟩ := Classical.choose_spec (each i hi)
            rw [k3] at h2
            obtain rfl : d' = d := by simpa using h2
            rw [hsv]
            exact ⟨k1, k2, k4⟩
    | ptr e => rw [hT] at hr; simp [Ty.rd] at hr
    | map => rw [hT] at hr; simp [Ty.rd] at hr
    | tuple ts => rw [hT] at hr; simp [Ty.rd] at hr
    | other => rw [hT] at hr; simp [Ty.rd] at hr
end
end Go.Vc
end

section
namespace Go.Vc
open Go.ChangeShapes Go.WideShapes Go.ChangeAt Go.RowKit
set_option linter.unusedVariables false
set_option linter.unusedSimpArgs false
set_option autoImplicit false

section
variable {H : Type} {X : Tab} (ok : TabOK X) {enc : TypeId × Value → H} {w : World}

def ArgsD (X : Tab) (w : World) : List Nat → List SV → List (DataW H) → Prop
  | [], [], [] => True
  | t :: ts, x :: xs, d :: ds => (∃ m, Deep X w m (X.T t) x d) ∧ x.shape (X.T t) = true ∧ ArgsD X w ts xs ds
  | _, _, _ => False

include ok in
theorem value_enc {t : Nat} {v : Value} {sv : SV} (hv : Value.okWide X.P w .any 0 t v ∨ ∃ b, Value.okWide X.P w .any b t v) (hs : sv.shape (X.T t) = true) (hr : isData (X.T t) = true) (hc : v.cells.toList = sv.cells) (hnp : ∀ e, X.T t ≠ .ptr e) (hnm : X.T t ≠ .map) : v = sv.enc := by
  obtain ⟨b, hv⟩ : ∃ b, Value.okWide X.P w .any b t v := by rcases hv with h | h; exact ⟨0, h⟩; exact h
  have hty := ok.ty t
  cases hT : X.T t with
  | int k =>
    rw [hT] at hty hs
    obtain ⟨n, rfl⟩ := okWide_int (t := t) hty hv
    rw [enc_scalar hs rfl] at hc
    simpa [Value.cells] using hc
  | bool =>
    rw [hT] at hty hs
    obtain ⟨n, rfl⟩ := okWide_bool (t := t) hty hv
    rw [enc_scalar hs rfl] at hc
    simpa [Value.cells] using hc
  | str =>
    rw [hT] at hty hs
    obtain ⟨n, rfl⟩ := okWide_string (t := t) hty hv
    rw [enc_scalar hs rfl] at hc
    simpa [Value.cells] using hc
  | slice e =>
    rw [hT] at hty hs
    obtain ⟨a, l, c, rfl⟩ := okWide_slice (t := t) hty hv
    rw [enc_scalar hs rfl] at hc
    simpa [Value.cells] using hc
  | arr k n =>
    rw [hT] at hty hs
    obtain ⟨e, hu, _⟩ := hty
    unfold Value.okWide at hv
    rw [hu] at hv
    obtain ⟨cs, rfl, _⟩ := hv
    rw [enc_agg hs rfl]
    simp only [Value.cells] at hc
    rw [← hc]
  | struct bb ts =>
    rw [hT] at hty hs
    have hu : ∃ cs, v = .agg cs := by
      cases bb with
      | false =>
        obtain ⟨fs, hu, _⟩ := hty
        unfold Value.okWide at hv
        rw [hu] at hv
        obtain ⟨cs, h, _⟩ := hv
        exact ⟨cs, h⟩
      | true =>
        obtain ⟨n, e, hu, _⟩ := hty
        unfold Value.okWide at hv
        rw [hu] at hv
        obtain ⟨cs, h, _⟩ := hv
        exact ⟨cs, h⟩
    obtain ⟨cs, rfl⟩ := hu
    rw [enc_agg hs rfl]
    simp only [Value.cells] at hc
    rw [← hc]
  | ptr e => exact absurd hT (hnp e)
  | map => exact absurd hT hnm
  | tuple ts => rw [hT] at hr; cases hr
  | other => rw [hT] at hr; cases hr

theorem rd_noptr {f : Nat → Bool} {t : Ty} (h : t.rd f = true) : (∀ e, t ≠ .ptr e) ∧ t ≠ .map := by cases t <;> simp [Ty.rd] at h <;> simp

include ok in
theorem args_deep {m : Nat} : ∀ {ts : List TypeId} {vs : List Value} {ds : List (DataW H)} {ps : List MemPlace}, DataW.TrodAll enc X.P w 0 (fun _ => true) true ts vs ds ps →
    (∀ (j : Nat) t v, ts[j]? = some t → vs[j]? = some v → ∃ b, Value.okWide X.P w .any b t v) → (ts.all fun t => (X.T t).rd (rdN X m)) = true →
    ∃ svs, vs = SV.encL svs ∧ ArgsD X w ts svs ds
  | [], vs, ds, ps, h, _, _ => by
    obtain ⟨rfl, rfl, rfl⟩ := trodAll_nil h
    exact ⟨[], rfl, trivial⟩
  | t :: ts, vs, ds, ps, h, hv, hr => by
    obtain ⟨v, vs', d, ds', p, q, rfl, rfl, rfl, ⟨fuel, hd⟩, hrest⟩ := trodAll_cons h
    simp only [List.all_cons, Bool.and_eq_true] at hr
    obtain ⟨sv, e1, e2, e3⟩ := deep_of_trod ok fuel m t _ _ _ hr.1 hd
    obtain ⟨svs, g1, g2⟩ := args_deep hrest (fun j t v h1 h2 => hv (j + 1) t v (by simpa using h1) (by simpa using h2)) hr.2
    have hve := value_enc ok (.inr (hv 0 t v rfl rfl)) e2 (rd_data hr.1) e1 (rd_noptr hr.1).1 (rd_noptr hr.1).2
    exact ⟨sv :: svs, by rw [hve, g1]; rfl, ⟨fuel, e3⟩, e2, g2⟩

/-- the arguments read as they did -/
theorem args_same {P : Program} (hl : laidOutB P = true) {W W' : World} (hb : Below W.heap.size W W') : ∀ {ts : List TypeId} {vs : List Value} {ds : List (DataW H)} {ps : List MemPlace},
    DataW.TrodAll enc P W 0 (fun _ => true) true ts vs ds ps → (ts.all fun t => P.readableRec t && decide (t < P.types.size)) = true →
    DataW.TrodAll enc P W' 0 (fun b => decide (b < W.heap.size)) true ts vs ds ps
  | [], vs, ds, ps, h, _ => by
    obtain ⟨rfl, rfl, rfl⟩ := trodAll_nil h
    exact trodAll_mk0
  | t :: ts, vs, ds, ps, h, hr => by
    obtain ⟨v, vs', d, ds', p, q, rfl, rfl, rfl, hd, hrest⟩ := trodAll_cons h
    simp only [List.all_cons, Bool.and_eq_true, decide_eq_true_eq] at hr
    have hlt : ∀ x ∈ p, x.block < W.heap.size := by obtain ⟨m, hm⟩ := hd; exact DataW.trod_lt m _ _ _ hm
    exact ⟨p, q, Below.trod hl hr.1.1 hr.1.2 hd hb hlt, args_same hl hb hrest hr.2, rfl⟩

include ok in
/-- a law's call, out of its contract -/
theorem law_post {fn : Func} {f : Nat} {spec : ChangeSpec} {ts : List TypeId} {tb : TypeId} {m : Nat} (hl : laidOutB X.P = true) (hts : fn.params.toList = ts) (hres : fn.resultTypes = #[tb]) (htb : X.P.underlying tb = some .bool)
    (hvars : spec.vars = []) (hspec : ∀ ds : List (DataW H), ds.length = ts.length → spec.fn H ds = { results := [.lit (.bool true)], args := ds })
    (hr : (ts.all fun t => (X.T t).rd (rdN X m)) = true) (hr2 : (ts.all fun t => X.P.readableRec t && decide (t < X.P.types.size)) = true)
    {W : World} {args : Array Value} {ds gs : List (DataW H)} {before : List MemPlace} {base : Nat}
    (hval : ∀ (j : Nat) t v, fn.params[j]? = some t → args[j]? = some v → Value.okWide X.P W .any base t v)
    (hW : DataW.Whole enc X.P fn.params.toList spec.vars false W args.toList ds gs before)
    (walk : ∀ svs, ArgsD X W ts svs ds → Ret X.P f svs W fun r w1 => r = .bool true ∧ Upd [] [] W w1) :
    Calls X.P f args W fun e W' => ∃ v, e = .returned v ∧ spec.post enc X.P fn false true false false W args v W' := by
  have hW' := hW
  obtain ⟨p, q, hA, hV, rfl, hfz, hnd⟩ := hW
  rw [hvars] at hV
  obtain ⟨rfl, rfl⟩ := trodVars_none hV
  rw [hts] at hA
  obtain ⟨svs, h1, h2⟩ := args_deep ok hA (fun j t v g1 g2 => ⟨base, hval j t v (by simpa [← hts] using g1) (by simpa using g2)⟩) hr
  have hargs : args = (SV.encL svs).toArray := by cases args; simp_all
  have hlen : ds.length = ts.length := by
    have : ∀ (ts : List Nat) (svs : List SV) (ds : List (DataW H)), ArgsD X W ts svs ds → ds.length = ts.length := by
      intro ts
      induction ts with
      | nil => intro svs ds h; cases svs <;> cases ds <;> simp [ArgsD] at h <;> rfl
      | cons t ts ih => intro svs ds h; cases svs <;> cases ds <;> simp [ArgsD] at h; simp [ih _ _ h.2.2]
    exact this _ _ _ h2
  have hw := walk svs h2
  unfold Ret at hw
  rw [← hargs] at hw
  refine hw.mono fun e W' ⟨r, he, hr', hu⟩ => ?_
  subst hr'
  subst he
  have hb := hu.below (by simp)
  have hsp := hspec ds hlen
  refine ⟨_, rfl, _, _, _, [], p, [], hW', ?_, ?_, ?_, hb.frame _, fun h => by cases h⟩
  · rw [hres, List.append_nil, hsp]
    exact trodAll_mk1 (shut_bool htb _)
  · rw [List.append_nil, hsp, hts]
    exact args_same hl hb hA hr2
  · rw [List.append_nil, hsp, hvars]
    rfl
end

/-! ### what is known of arguments -/
section
variable {H : Type} {X : Tab} {w : World}
theorem argsD_nil {svs : List SV} {ds : List (DataW H)} (h : ArgsD X w [] svs ds) : svs = [] ∧ ds = [] := by
  cases svs <;> cases ds <;> simp [ArgsD] at h
  exact ⟨rfl, rfl⟩
theorem argsD_cons {t : Nat} {ts : List Nat} {svs : List SV} {ds : List (DataW H)} (h : ArgsD X w (t :: ts) svs ds) :
    ∃ x xs d ds' m, svs = x :: xs ∧ ds = d :: ds' ∧ Deep X w m (X.T t) x d ∧ ArgsD X w ts xs ds' := by
  cases svs <;> cases ds <;> simp [ArgsD] at h
  obtain ⟨⟨m, h1⟩, h2, h3⟩ := h
  exact ⟨_, _, _, _, m, rfl, rfl, h1, h3⟩
theorem wf_i64 {n : Int} (h : (Lit.int .i64 n).wf = true) : -9223372036854775808 ≤ n ∧ n ≤ 9223372036854775807 := by
  simpa [Lit.wf, IntKind.min, IntKind.max, IntKind.signed, IntKind.bits] using h
theorem wf_u8 {n : Int} (h : (Lit.int .u8 n).wf = true) : 0 ≤ n ∧ n < 256 := by
  have : 0 ≤ n ∧ n ≤ 255 := by simpa [Lit.wf, IntKind.min, IntKind.max, IntKind.signed, IntKind.bits] using h
  omega
/-- bytes -/
theorem deep_bytes {m t e : Nat} {x : SV} {d : DataW H} (hT : X.T t = .slice e) (hE : X.T e = .int .u8) (h : Deep X w m (X.T t) x d) :
    ∃ (s : Sl) (l : List Int), x = .slice s ∧ SeesB w s l ∧ Byt l ∧ s.len ≤ s.cap ∧ s.cap ≤ maxLen ∧ (d = .nil ∧ s = ⟨none, 0, 0⟩ ∨ ∃ els sp, d = .slice els sp ∧ els.length = l.length ∧ els.length + sp.length = s.cap) := by
  rw [hT] at h
  cases m with
  | zero => exact h.elim
  | succ m =>
    simp only [Deep] at h
    rcases h with ⟨rfl, rfl⟩ | ⟨a, len, cap, vs, ds, rfl, rfl, hl, hm, hv, hd, h⟩
    · exact ⟨⟨none, 0, 0⟩, [], rfl, Sees.nil _ _ _ _, Byt.nil, Nat.le_refl _, by simp [maxLen], .inl ⟨rfl, rfl⟩⟩
    · rw [hE] at h
      let num : SV → Int := fun v => match v with | .int _ n => n | _ => 0
      have each : ∀ i (hi : i < cap), w.cell? (a.add i) = some (.int .u8 (num (vs[i]'(by omega)))) ∧ 0 ≤ num (vs[i]'(by omega)) ∧ num (vs[i]'(by omega)) < 256 := by
        intro i hi
        obtain ⟨h1, h2, h3⟩ := h i _ _ (List.getElem?_eq_getElem (by omega)) (List.getElem?_eq_getElem (by omega))
        cases m with
        | zero => exact h3.elim
        | succ m =>
          simp only [Deep] at h3
          obtain ⟨n, g1, _, g3⟩ := h3
          have := h2 0 (by rw [g1]; simp [SV.cells])
          rw [g1]
          simp [g1, SV.cells, Ty.size] at this
          exact ⟨this, wf_u8 g3⟩
      refine ⟨⟨some a, len, cap⟩, (vs.take len).map num, rfl, ⟨by simp; omega, ?_⟩, ?_, hl, hm, .inr ⟨_, _, rfl, by simp; omega, by simp; omega⟩⟩
      · intro i hi
        have hc : cU8.cells ((vs.take len).map num) = ((vs.take len).map num).map fun n => Value.int .u8 n := Cod.cells_map1 (fun _ => rfl) _
        simp only [hc, List.getElem_map, List.getElem_take]
        rw [hc] at hi
        simp at hi
        exact (each i (by omega)).1
      · intro y hy
        obtain ⟨v, hv', rfl⟩ := List.mem_map.1 hy
        obtain ⟨i, hi, rfl⟩ := List.getElem_of_mem hv'
        simp at hi
        simp only [List.getElem_take]
        exact (each i (by omega)).2
end
end Go.Vc
end

section
namespace Go.Vc
set_option linter.unusedVariables false
set_option linter.unusedSimpArgs false
set_option autoImplicit false
section
variable {H : Type} {X : Tab} {w : World}
theorem all3_nil {R : Ty → SV → DataW H → Prop} {xs : List SV} {ds : List (DataW H)} (h : All3 R [] xs ds) : xs = [] ∧ ds = [] := by
  cases xs <;> cases ds <;> simp [All3] at h
  exact ⟨rfl, rfl⟩
theorem all3_cons {R : Ty → SV → DataW H → Prop} {t : Ty} {ts : List Ty} {xs : List SV} {ds : List (DataW H)} (h : All3 R (t :: ts) xs ds) :
    ∃ x xs' d ds', xs = x :: xs' ∧ ds = d :: ds' ∧ R t x d ∧ All3 R ts xs' ds' := by
  cases xs <;> cases ds <;> simp [All3] at h
  exact ⟨_, _, _, _, rfl, rfl, h.1, h.2⟩
theorem dp_struct {m : Nat} {b : Bool} {ts : List Ty} {x : SV} {d : DataW H} (h : Deep X w m (.struct b ts) x d) : ∃ fs l m', x = .struct fs ∧ d = .agg l ∧ All3 (Deep X w m') ts fs l := by
  cases m with
  | zero => exact h.elim
  | succ m => simp only [Deep] at h; obtain ⟨fs, l, h1, h2, h3⟩ := h; exact ⟨fs, l, m, h1, h2, h3⟩
theorem dp_int {m : Nat} {k : IntKind} {x : SV} {d : DataW H} (h : Deep X w m (.int k) x d) : ∃ n, x = .int k n ∧ d = .lit (.int k n) ∧ (Lit.int k n).wf = true := by
  cases m with
  | zero => exact h.elim
  | succ m => simpa only [Deep] using h
theorem dp_bool {m : Nat} {x : SV} {d : DataW H} (h : Deep X w m .bool x d) : ∃ n, x = .bool n ∧ d = .lit (.bool n) := by
  cases m with
  | zero => exact h.elim
  | succ m => simpa only [Deep] using h
theorem dp_arr8 {m n : Nat} {x : SV} {d : DataW H} (h : Deep X w m (.arr .u8 n) x d) : ∃ f l, x = .arr .u8 n f ∧ d = .agg l ∧ l.length = n ∧ ∀ i, i < n → 0 ≤ f i ∧ f i < 256 := by
  cases m with
  | zero => exact h.elim
  | succ m =>
    simp only [Deep] at h
    obtain ⟨f, l, h1, h2, h3, h4⟩ := h
    exact ⟨f, l, h1, h2, h3, fun i hi => wf_u8 (h4 i hi).2⟩
/-- an address -/
theorem dp_ip {m : Nat} {x : SV} {d : DataW H} (h : Deep X w m (.struct false [.int .i64, .arr .u8 16]) x d) :
    ∃ (v : Int) (a : Nat → Int), x = .struct [.int .i64 v, .arr .u8 16 a] ∧ (-9223372036854775808 ≤ v ∧ v ≤ 9223372036854775807) ∧ ∀ i, i < 16 → 0 ≤ a i ∧ a i < 256 := by
  obtain ⟨fs, l, m', rfl, rfl, q⟩ := dp_struct h
  obtain ⟨x, _, _, _, rfl, rfl, h1, q⟩ := all3_cons q
  obtain ⟨y, _, _, _, rfl, rfl, h2, q⟩ := all3_cons q
  obtain ⟨rfl, rfl⟩ := all3_nil q
  obtain ⟨v, rfl, _, hw⟩ := dp_int h1
  obtain ⟨a, _, rfl, _, _, ha⟩ := dp_arr8 h2
  exact ⟨v, a, rfl, wf_i64 hw, ha⟩
end
end Go.Vc
end

section
namespace Go.Vc
set_option linter.unusedVariables false
set_option linter.unusedSimpArgs false
set_option autoImplicit false

/-! ### options: a kind and bytes -/
structure Opt where
  kind : Int
  data : List Int
  deriving DecidableEq
def cOpt : Cod (Int × Sl) := ⟨2, fun p => [.int .i64 p.1, p.2.val], fun _ => rfl, by simp [Value.oneCell', Sl.val]⟩
/-- a slice of options -/
structure Opts (w : World) (s : Sl) (l : List Opt) (os : List (Int × Sl)) : Prop where
  row : Sees cOpt w s os
  len : os.length = l.length
  kind : ∀ i (h : i < l.length), (os[i]'(by rw [len]; exact h)).1 = l[i].kind
  each : ∀ i (h : i < l.length), SeesB w (os[i]'(by rw [len]; exact h)).2 l[i].data

section
variable {w w1 : World} {s : Sl} {l : List Opt} {os : List (Int × Sl)}
theorem Opts.slen (h : Opts w s l os) : s.len = l.length := by rw [h.row.len, h.len]
theorem Opts.nil (w : World) (p : Option Addr) (cap : Nat) : Opts w ⟨p, 0, cap⟩ [] [] := ⟨Sees.nil _ _ _ _, rfl, by simp, by simp⟩
theorem Opts.upd {m n : List Nat} (h : Opts w s l os) (u : Upd m n w w1) (h1 : ∀ b ∈ s.blk, b ∉ m) (h2 : ∀ x ∈ os, ∀ b ∈ x.2.blk, b ∉ m) : Opts w1 s l os where
  row := h.row.upd u h1
  len := h.len
  kind := h.kind
  each i hi := (h.each i hi).upd u (h2 _ (List.getElem_mem _))
theorem Opts.old {n : List Nat} (h : Opts w s l os) (u : Upd [] n w w1) : Opts w1 s l os := h.upd u (by simp) (by simp)
/-- an option's cells -/
theorem Opts.get (h : Opts w s l os) (i : Nat) (hi : i < l.length) :
    w.cell? (s.at 2 i) = some (.int .i64 (l[i]).kind) ∧ w.cell? ((s.at 2 i).add 1) = some ((os[i]'(by rw [h.len]; exact hi)).2).val ∧ SeesB w (os[i]'(by rw [h.len]; exact hi)).2 l[i].data ∧ s.ptr.isSome = true := by
  have hi' : i < os.length := by rw [h.len]; exact hi
  have he := h.row.elem hi'
  have h1 := he 0 (by simp [cOpt])
  have h2 := he 1 (by simp [cOpt])
  rw [add_zero] at h1
  rw [show cOpt.sz = 2 from rfl] at h1 h2
  refine ⟨?_, h2, h.each i hi, h.row.isSome (by decide) (by omega)⟩
  rw [h1]
  simp [cOpt, h.kind i hi]
theorem needO {X : Prop} (h : Opts w s l os) {i : Int} (h0 : 0 ≤ i) (h1 : i < l.length) (x : X) : Need (decide (0 ≤ i) && decide (i < (s.len : Int)) && s.ptr.isSome) X :=
  needIx h0 (by rw [h.slen]; exact h1) (h.get i.toNat (by omega)).2.2.2 x
/-- one more option -/
theorem Opts.snoc {r : Sl} {o : Opt} {x : Sl} (h : Opts w s l os) (hr : Sees cOpt w1 r (os ++ [(o.kind, x)])) (hx : SeesB w1 x o.data) (he : ∀ i (h2 : i < l.length), SeesB w1 (os[i]'(by rw [h.len]; exact h2)).2 l[i].data) : Opts w1 r (l ++ [o]) (os ++ [(o.kind, x)]) where
  row := hr
  len := by simp [h.len]
  kind i hi := by
    by_cases e : i < l.length
    · have hl := h.len
      rw [List.getElem_append_left (by omega), List.getElem_append_left (by omega)]; exact h.kind i e
    · have : i = l.length := by simp at hi; omega
      subst this
      have hl := h.len
      rw [List.getElem_append_right (by omega), List.getElem_append_right (by omega)]
      simp [h.len]
  each i hi := by
    by_cases e : i < l.length
    · have hl := h.len
      rw [List.getElem_append_left (by omega), List.getElem_append_left (by omega)]; exact he i e
    · have : i = l.length := by simp at hi; omega
      subst this
      have hl := h.len
      rw [List.getElem_append_right (by omega), List.getElem_append_right (by omega)]
      simp [h.len]
      exact hx
end

/-! ### options read -/
/-! ### options written -/
def optB (o : Opt) : List Int := [o.kind % 256, ((2 + o.data.length : Nat) : Int) % 256] ++ o.data
def pad4 (b : List Int) : List Int := b ++ List.replicate ((4 - b.length % 4) % 4) 0
def putO (l : List Opt) : List Int := pad4 (l.flatMap optB)
def okO (o : Opt) : Prop := 2 ≤ o.kind ∧ o.kind ≤ 255 ∧ o.data.length ≤ 38
instance (o : Opt) : Decidable (okO o) := by unfold okO; infer_instance
def putOk (l : List Opt) : Prop := (∀ o ∈ l, okO o) ∧ (l.flatMap optB).length ≤ 40
instance (l : List Opt) : Decidable (putOk l) := by unfold putOk; infer_instance
theorem optB_len (o : Opt) : (optB o).length = 2 + o.data.length := by simp [optB]; omega
theorem pad4_len (b : List Int) : (pad4 b).length % 4 = 0 ∧ b.length ≤ (pad4 b).length ∧ (pad4 b).length < b.length + 4 := by
  simp [pad4]; omega
theorem putO_len {l : List Opt} (h : putOk l) : (putO l).length ≤ 40 ∧ (putO l).length % 4 = 0 := by
  have := pad4_len (l.flatMap optB)
  have := h.2
  unfold putO
  omega
theorem optB_byt {o : Opt} (h : Byt o.data) : Byt (optB o) := by
  unfold optB
  refine Byt.app ?_ h
  simp [Byt]; omega
theorem flatMap_byt {l : List Opt} (h : ∀ o ∈ l, Byt o.data) : Byt (l.flatMap optB) := fun x hx => by
  obtain ⟨o, ho, hx⟩ := List.mem_flatMap.1 hx
  exact optB_byt (h o ho) x hx
theorem putO_byt {l : List Opt} (h : ∀ o ∈ l, Byt o.data) : Byt (putO l) := (flatMap_byt h).app (fun x hx => by have := List.eq_of_mem_replicate hx; omega)
end Go.Vc
end

section
namespace Go.Vc
set_option linter.unusedVariables false
set_option linter.unusedSimpArgs false
set_option autoImplicit false

end Go.Vc
end

section
namespace Go.Vc
set_option autoImplicit false
set_option linter.unusedVariables false

/-- a number folded -/
def fd (n : Int) : Int := if n = 0 then 0 else (n - 1) % 65535 + 1
theorem fd_range {n : Int} (h : 0 ≤ n) : 0 ≤ fd n ∧ fd n ≤ 65535 := by unfold fd; split <;> omega
theorem fd_most {a : Int} (ha : 0 ≤ a) : fd a = 65535 ↔ a ≠ 0 ∧ a % 65535 = 0 := by unfold fd; split <;> omega
theorem fd_zero {a : Int} (ha : 0 ≤ a) : fd a = 0 ↔ a = 0 := by unfold fd; split <;> omega

/-- the weighted sum of bytes; h: the first one is a word's higher half -/
def ws : Bool → List Int → Int
  | _, [] => 0
  | h, b :: r => (if h then b * 256 else b) + ws (!h) r
def par (h : Bool) (n : Nat) : Bool := if n % 2 = 0 then h else !h
theorem par_succ (h : Bool) (n : Nat) : par (!h) n = par h (n + 1) := by
  unfold par
  cases h <;> (split <;> split <;> first | rfl | omega)
theorem par_par (h : Bool) (n m : Nat) : par (par h n) m = par h (n + m) := by
  simp only [par]
  cases h <;> by_cases h1 : n % 2 = 0 <;> by_cases h2 : m % 2 = 0 <;> by_cases h3 : (n + m) % 2 = 0 <;> simp [h1, h2, h3] <;> omega
theorem ws_app : ∀ (a b : List Int) (h : Bool), ws h (a ++ b) = ws h a + ws (par h a.length) b
  | [], b, h => by simp [ws, par]
  | x :: a, b, h => by
    simp only [List.cons_append, ws, ws_app a b (!h), List.length_cons, par_succ]
    omega
theorem ws_snoc (a : List Int) (x : Int) (h : Bool) : ws h (a ++ [x]) = ws h a + (if par h a.length then x * 256 else x) := by
  rw [ws_app]; simp [ws]
theorem ws_nonneg : ∀ {l : List Int} (h : Bool), (∀ x ∈ l, 0 ≤ x ∧ x < 256) → 0 ≤ ws h l ∧ ws h l ≤ 65280 * l.length
  | [], h, _ => by simp [ws]
  | x :: l, h, hb => by
    have ih := ws_nonneg (l := l) (!h) (fun y hy => hb y (by simp [hy]))
    have hx := hb x (by simp)
    simp only [ws, List.length_cons]
    split <;> omega
theorem ws_zero : ∀ {l : List Int} (h : Bool), (∀ x ∈ l, 0 ≤ x ∧ x < 256) → (ws h l = 0 ↔ ∀ x ∈ l, x = 0)
  | [], h, _ => by simp [ws]
  | x :: l, h, hb => by
    have ih := ws_zero (l := l) (!h) (fun y hy => hb y (by simp [hy]))
    have ih2 := ws_nonneg (l := l) (!h) (fun y hy => hb y (by simp [hy]))
    have hx := hb x (by simp)
    simp only [ws, List.mem_cons, forall_eq_or_imp]
    rw [← ih]
    split <;> omega
/-- the document's sum -/
def sumOf (l : List Int) : Int := fd (ws true l)
end Go.Vc
end

section
namespace Go.Vc
set_option linter.unusedVariables false
set_option linter.unusedSimpArgs false
set_option autoImplicit false
end Go.Vc
end

section
open Go Go.Vc
set_option linter.unusedVariables false
set_option linter.unusedSimpArgs false
set_option autoImplicit false
namespace Go.Vc
theorem cells_each {α : Type} {c : Cod α} {w : World} : ∀ {l : List α} {a : Addr}, (∀ i (hi : i < l.length), Cells w (some (a.add (i * c.sz))) (c.enc l[i])) → Cells w (some a) (c.cells l)
  | [], a, _ => by intro i hi; simp [Cod.cells] at hi
  | x :: r, a, h => by
    rw [Cod.cells_cons]
    refine Cells.mk ?_ (cells_each fun i hi => ?_)
    · have := h 0 (by simp)
      rw [Nat.zero_mul, add_zero] at this
      exact this
    · have h1 := h (i + 1) (by simp; omega)
      rw [c.len, add_add, show c.sz + i * c.sz = (i + 1) * c.sz by rw [Nat.add_mul, Nat.one_mul, Nat.add_comm]]
      exact h1
section
open Go.ChangeShapes Go.WideShapes Go.ChangeAt Go.RowKit
variable {H : Type} {X : Tab} {w : World}
end
end Go.Vc
end

section
namespace Go.Vc
set_option linter.unusedVariables false
set_option linter.unusedSimpArgs false
set_option autoImplicit false

/-! ### bits of bytes -/
/-! ### fields put together -/
end Go.Vc
end

section
namespace Go.Vc
set_option linter.unusedVariables false
set_option linter.unusedSimpArgs false
set_option autoImplicit false

/-! ### boxes: slices of one element -/
section
variable {α : Type} {c : Cod α} {w w1 : World} {b N : Nat} {x y : α}
end
/-! ### one bit more -/
end Go.Vc
end

section
namespace Go.Vc
set_option linter.unusedVariables false
set_option linter.unusedSimpArgs false
set_option autoImplicit false
/-- bytes as a string -/
def baOf (l : List Int) : ByteArray := ⟨(l.map fun x => UInt8.ofNat x.toNat).toArray⟩
theorem strOf {w : World} {s : Sl} {l : List Int} {F : ByteArray → Prop} (h : SeesB w s l) (hb : Byt l) (k : F (baOf l)) : BytesStr w s F := by
  refine ⟨(l.map fun (x : Int) => UInt8.ofNat x.toNat), by rw [List.length_map, h.len], fun hn => ?_, fun i hi => ?_, k⟩
  · by_cases hl : 0 < l.length
    · have := h.isSome (by decide) hl
      rw [hn] at this; cases this
    · rw [List.length_eq_zero_iff.1 (show l.length = 0 by omega)]; rfl
  · rw [List.length_map] at hi
    rw [byteC h i hi, bt_nat hi, List.getElem_map]
    have := hb l[i] (List.getElem_mem hi)
    congr 2
    rw [UInt8.toNat_ofNat', Nat.mod_eq_of_lt (by omega)]
    omega
theorem baOf_back {l : List Int} (hb : Byt l) : (baOf l).data.toList.map (fun u => ((u.toNat : Nat) : Int)) = l := by
  simp only [baOf, List.map_map]
  refine (List.map_congr_left fun x hx => ?_).trans (List.map_id l)
  have := hb x hx
  simp only [Function.comp, UInt8.toNat_ofNat', id]
  rw [Nat.mod_eq_of_lt (by omega)]
  omega
theorem baOf_eq {l m : List Int} (hl : Byt l) (hm : Byt m) : (baOf l == baOf m) = decide (l = m) := by
  by_cases h : l = m
  · subst h
    rw [decide_eq_true rfl]
    show (baOf l).data == (baOf l).data
    simp
  · have eb : ∀ a b : ByteArray, (a == b) = (a.data == b.data) := fun a b => by cases a; cases b; rfl
    rw [decide_eq_false h, eb, beq_eq_false_iff_ne]
    intro e
    apply h
    rw [← baOf_back hl, ← baOf_back hm, e]
theorem alike {w : World} {a b : Sl} {la lb : List Int} {R : Bool → Prop} (ha : SeesB w a la) (hb : SeesB w b lb) (ba : Byt la) (bb : Byt lb) (k : R (decide (la = lb))) :
    BytesStr w a fun x => BytesStr w b fun y => R (x == y) := by
  refine strOf ha ba (strOf hb bb ?_)
  rw [baOf_eq ba bb]
  exact k
end Go.Vc
end

section
open Go Go.Vc
set_option linter.unusedVariables false
set_option linter.unusedSimpArgs false
set_option autoImplicit false
namespace Go.Vc
section
open Go.ChangeShapes Go.WideShapes Go.ChangeAt Go.RowKit
variable {H : Type} {X : Tab} {w : World}
/-- a slice's datum and its length -/
def SlLen (d : DataW H) (n : Nat) : Prop := (d = .nil ∧ n = 0) ∨ ∃ els sp, d = .slice els sp ∧ els.length = n
theorem deep_bytes' {m t e : Nat} {x : SV} {d : DataW H} (hT : X.T t = .slice e) (hE : X.T e = .int .u8) (h : Deep X w m (X.T t) x d) :
    ∃ (s : Sl) (l : List Int), x = .slice s ∧ SeesB w s l ∧ Byt l ∧ s.len ≤ s.cap ∧ SlLen d l.length := by
  obtain ⟨s, l, h1, h2, h3, h4, h5, h6⟩ := deep_bytes hT hE h
  refine ⟨s, l, h1, h2, h3, h4, ?_⟩
  rcases h6 with ⟨rfl, rfl⟩ | ⟨els, sp, rfl, h7, _⟩
  · left; exact ⟨rfl, by have := h2.len; simpa using this.symm⟩
  · right; exact ⟨els, sp, rfl, h7⟩
/-- a slice of options -/
theorem dp_opts {m t e t2 e2 : Nat} {x : SV} {d : DataW H} (hT : X.T t = .slice e) (hE : X.T e = .struct false [.int .i64, .slice e2]) (hT2 : X.T t2 = .slice e2) (hE2 : X.T e2 = .int .u8) (h : Deep X w m (X.T t) x d) :
    ∃ (s : Sl) (l : List Opt) (os : List (Int × Sl)), x = .slice s ∧ Opts w s l os ∧ (∀ o ∈ l, Byt o.data) ∧ (∀ y ∈ os, y.2.len ≤ y.2.cap) ∧ s.len ≤ s.cap ∧
      (d = .nil ∧ l = [] ∨ ∃ els sp, d = .slice els sp ∧ els.length = l.length ∧ ∀ i (hi : i < l.length), ∃ dk dd, els[i]? = some (.agg [dk, dd]) ∧ SlLen dd l[i].data.length) := by
  rw [hT] at h
  cases m with
  | zero => exact h.elim
  | succ m =>
    simp only [Deep] at h
    rcases h with ⟨rfl, rfl⟩ | ⟨a, len, cap, vs, ds, rfl, rfl, hl, hm, hv, hd, h⟩
    · exact ⟨⟨none, 0, 0⟩, [], [], rfl, Opts.nil _ _ _, by simp, by simp, Nat.le_refl _, .inl ⟨rfl, rfl⟩⟩
    · have each : ∀ i (hi : i < cap), ∃ (o : Opt) (s : Sl), Cells w (some (a.add (i * 2))) (cOpt.enc (o.kind, s)) ∧ SeesB w s o.data ∧ Byt o.data ∧ s.len ≤ s.cap ∧ ∃ dk dd, ds[i]'(by omega) = .agg [dk, dd] ∧ SlLen dd o.data.length := by
        intro i hi
        obtain ⟨h1, h2, h3⟩ := h i _ _ (List.getElem?_eq_getElem (by omega)) (List.getElem?_eq_getElem (by omega))
        rw [hE] at h3 h2
        obtain ⟨fs, l, m', e1, e2', q⟩ := dp_struct h3
        obtain ⟨x1, _, d1, _, rfl, rfl, q1, q⟩ := all3_cons q
        obtain ⟨x2, _, d2, _, rfl, rfl, q2, q⟩ := all3_cons q
        obtain ⟨rfl, rfl⟩ := all3_nil q
        obtain ⟨k, rfl, _, _⟩ := dp_int q1
        rw [← hT2] at q2
        obtain ⟨s, l, rfl, g2, g3, g4, g5⟩ := deep_bytes' hT2 hE2 q2
        refine ⟨⟨k, l⟩, s, ?_, g2, g3, g4, d1, d2, e2', g5⟩
        rw [e1] at h2
        exact h2
      let F : Fin len → Opt := fun i => Classical.choose (each i (by omega))
      have hF0 : ∀ i : Fin len, ∃ (s : Sl), Cells w (some (a.add (i * 2))) (cOpt.enc ((F i).kind, s)) ∧ SeesB w s (F i).data ∧ Byt (F i).data ∧ s.len ≤ s.cap ∧ ∃ dk dd, ds[i.val]'(by omega) = .agg [dk, dd] ∧ SlLen dd (F i).data.length := fun i => Classical.choose_spec (each i (by omega))
      let G : Fin len → Sl := fun i => Classical.choose (hF0 i)
      have hG : ∀ i : Fin len, Cells w (some (a.add (i * 2))) (cOpt.enc ((F i).kind, G i)) ∧ SeesB w (G i) (F i).data ∧ Byt (F i).data ∧ (G i).len ≤ (G i).cap ∧ ∃ dk dd, ds[i.val]'(by omega) = .agg [dk, dd] ∧ SlLen dd (F i).data.length := fun i => Classical.choose_spec (hF0 i)
      refine ⟨⟨some a, len, cap⟩, List.ofFn F, List.ofFn fun i => ((F i).kind, G i), rfl, ⟨⟨by simp, cells_each fun i hi => ?_⟩, by simp, fun i hi => by simp, fun i hi => ?_⟩, fun y hy => ?_, fun y hy => ?_, hl, .inr ⟨_, _, rfl, by simp; omega, fun i hi => ?_⟩⟩
      · rw [List.getElem_ofFn]
        exact (hG ⟨i, by simpa using hi⟩).1
      · simp only [List.getElem_ofFn]
        exact (hG ⟨i, by simpa using hi⟩).2.1
      · obtain ⟨i, rfl⟩ := List.mem_ofFn.1 hy
        exact (hG i).2.2.1
      · obtain ⟨i, rfl⟩ := List.mem_ofFn.1 hy
        exact (hG i).2.2.2.1
      · simp only [List.getElem_ofFn]
        have hi' : i < len := by simpa using hi
        obtain ⟨dk, dd, e1, e2'⟩ := (hG ⟨i, hi'⟩).2.2.2.2
        refine ⟨dk, dd, ?_, e2'⟩
        rw [List.getElem?_take_of_lt hi', List.getElem?_eq_getElem (by omega)]
        exact congrArg some e1

/-! ### what weighs little is short -/
theorem weightsAll_mem {P : Program} {e : Nat} : ∀ {ds : List (DataW H)} {i : Nat} {d : DataW H}, ds[i]? = some d → ∀ n ∈ d.weights P e, n ∈ DataW.weightsAll P e ds
  | [], _, _, h, _, _ => by simp at h
  | x :: r, 0, d, h, n, hn => by
    simp at h; subst h
    simp only [DataW.weightsAll, List.mem_append]; exact .inl hn
  | x :: r, i + 1, d, h, n, hn => by
    simp only [DataW.weightsAll, List.mem_append]
    exact .inr (weightsAll_mem (i := i) (by simpa using h) n hn)
/-- all that is reached in a datum weighs at most that -/
def Light (P : Program) (t : Nat) (d : DataW H) : Prop := ∀ n ∈ d.weights P t, n ≤ 140737488351232
theorem light_arg {P : Program} {ts : List Nat} {ds : List (DataW H)} (h : (DataW.weightsEach P ts ds).all (· ≤ reachBytes) = true) : ∀ n ∈ DataW.weightsEach P ts ds, n ≤ 140737488351232 := fun n hn => by
  have h1 := List.all_eq_true.1 h n hn
  have h2 : n ≤ reachBytes := of_decide_eq_true h1
  exact h2
theorem light_head {P : Program} {t : Nat} {ts : List Nat} {d : DataW H} {ds : List (DataW H)} (h : ∀ n ∈ DataW.weightsEach P (t :: ts) (d :: ds), n ≤ 140737488351232) : Light P t d ∧ ∀ n ∈ DataW.weightsEach P ts ds, n ≤ 140737488351232 :=
  ⟨fun n hn => h n (by simp only [DataW.weightsEach, List.mem_append]; exact .inl hn), fun n hn => h n (by simp only [DataW.weightsEach, List.mem_append]; exact .inr hn)⟩
theorem light_struct {P : Program} {t : Nat} {fs : Array Field} {ts : List Nat} {l : List (DataW H)} (hu : P.underlying t = some (.struct fs)) (ht : fs.toList.map (·.type) = ts) (h : Light P t (.agg l)) : ∀ n ∈ DataW.weightsEach P ts l, n ≤ 140737488351232 := fun n hn => by
  refine h n ?_
  simp only [DataW.weights, hu, ht]
  exact hn
theorem light_slice {P : Program} {t e b : Nat} {els sp : List (DataW H)} (hu : P.underlying t = some (.slice e)) (hb : P.bytesOf e = b) (h : Light P t (.slice els sp)) : els.length * b ≤ 140737488351232 ∧ ∀ (i : Nat) (d : DataW H), els[i]? = some d → Light P e d := by
  refine ⟨?_, fun i d hd n hn => ?_⟩
  · have := h ((els.length + sp.length) * b) (by simp only [DataW.weights, hu, hb]; simp)
    rw [Nat.add_mul] at this
    omega
  · exact h n (by simp only [DataW.weights, hu]; simp only [List.mem_cons, List.mem_append]; exact .inr (.inl (weightsAll_mem hd n hn)))
theorem light_len {P : Program} {t e : Nat} {d : DataW H} {n : Nat} (hu : P.underlying t = some (.slice e)) (hb : P.bytesOf e = 1) (h : Light P t d) (hd : SlLen d n) : n ≤ 140737488351232 := by
  rcases hd with ⟨_, rfl⟩ | ⟨els, sp, rfl, rfl⟩
  · omega
  · have := (light_slice hu hb h).1; omega
/-- options that weigh little -/
theorem light_opts {P : Program} {t e t2 e2 t1 : Nat} {fs : Array Field} {d : DataW H} {l : List Opt} (hu : P.underlying t = some (.slice e)) (hb : P.bytesOf e = 32) (hs : P.underlying e = some (.struct fs)) (hft : fs.toList.map (·.type) = [t1, t2]) (hu2 : P.underlying t2 = some (.slice e2)) (hb2 : P.bytesOf e2 = 1) (h : Light P t d)
    (hd : d = .nil ∧ l = [] ∨ ∃ els sp, d = .slice els sp ∧ els.length = l.length ∧ ∀ i (hi : i < l.length), ∃ dk dd, els[i]? = some (.agg [dk, dd]) ∧ SlLen dd l[i].data.length) :
    l.length ≤ 4398046511000 ∧ ∀ o ∈ l, o.data.length ≤ 140737488351232 := by
  rcases hd with ⟨rfl, rfl⟩ | ⟨els, sp, rfl, he, hh⟩
  · simp
  · obtain ⟨h1, h2⟩ := light_slice hu hb h
    refine ⟨by omega, fun o ho => ?_⟩
    obtain ⟨i, hi, rfl⟩ := List.getElem_of_mem ho
    obtain ⟨dk, dd, e1, e2'⟩ := hh i hi
    have h3 := light_struct hs hft (h2 _ _ e1)
    exact light_len hu2 hb2 (light_head (light_head h3).2).1 e2'
end
end Go.Vc
end

section
namespace Go.Vc
set_option linter.unusedVariables false
set_option linter.unusedSimpArgs false
set_option autoImplicit false
end Go.Vc
end

section
namespace Go.Vc
set_option linter.unusedVariables false
set_option linter.unusedSimpArgs false
set_option autoImplicit false
/-- cells of more kinds than one -/
inductive CV
  | sl (s : Sl) | int (n : Int) | ptr (p : Option Addr) | map (r : Option Nat)
def cCV : Cod CV := ⟨1, fun | .sl s => [s.val] | .int n => [.int .i64 n] | .ptr p => [.pointer p] | .map r => [.map r], by intro x; cases x <;> rfl, by intro x v hv; cases x <;> simp at hv <;> subst hv <;> rfl⟩
abbrev bxN (b n : Nat) : Sl := ⟨some ⟨b, 0, none⟩, n, n⟩
/-- a box of such cells -/
structure Bx (w : World) (b : Nat) (l : List CV) : Prop where
  sees : Sees cCV w (bxN b l.length) l
  own : Own 0 1 w (bxN b l.length)
section
variable {w w1 : World} {b : Nat} {l : List CV}
theorem Bx.mk' {e : Nat} {cs : List Value} (h : w.heap[b]? = some (.cells cs.toArray e (0, 0))) (hc : cs = cCV.cells l) : Bx w b l :=
  ⟨sees_row h l hc rfl, own_row h (Nat.zero_le _) (by rw [hc, cCV.cells_length]; simp [cCV]) (Nat.le_refl _)⟩
theorem Bx.upd {m n : List Nat} (h : Bx w b l) (u : Upd m n w w1) (hm : b ∉ m) : Bx w1 b l := ⟨h.sees.upd u (by simpa [Sl.blk] using hm), h.own.upd u (by simpa [Sl.blk] using hm)⟩
theorem Bx.lt (h : Bx w b l) : b < w.heap.size := (h.own.blk b (by simp [Sl.blk])).2
theorem Bx.at_ (i : Nat) : (bxN b l.length).at 1 i = (⟨b, 0, none⟩ : Addr).add i := by simp [Sl.at]
theorem Bx.get (h : Bx w b l) (i : Nat) (hi : i < l.length) : some (w.cell? ((⟨b, 0, none⟩ : Addr).add i)) = ((cCV.enc l[i]).head?).map some := by
  have h0 : 0 < (cCV.enc l[i]).length := by cases l[i] <;> exact Nat.one_pos
  have h1 := h.sees.elem hi 0 h0
  rw [add_zero] at h1
  have h2 : w.cell? ((⟨b, 0, none⟩ : Addr).add i) = some (cCV.enc l[i])[0] := by rw [← Bx.at_ (b := b) (l := l)]; exact h1
  rw [h2]
  exact (fun (x : CV) (h : 0 < (cCV.enc x).length) => (by cases x <;> rfl : some (some (cCV.enc x)[0]) = ((cCV.enc x).head?).map some)) _ h0
theorem Bx.sl (h : Bx w b l) (i : Nat) (s : Sl) (hi : l[i]? = some (.sl s)) : w.cell? ((⟨b, 0, none⟩ : Addr).add i) = some s.val := by
  obtain ⟨h1, h2⟩ := List.getElem?_eq_some_iff.1 hi
  have := h.get i h1
  rw [h2] at this
  exact Option.some.inj this
theorem Bx.int (h : Bx w b l) (i : Nat) (n : Int) (hi : l[i]? = some (.int n)) : w.cell? ((⟨b, 0, none⟩ : Addr).add i) = some (.int .i64 n) := by
  obtain ⟨h1, h2⟩ := List.getElem?_eq_some_iff.1 hi
  have := h.get i h1
  rw [h2] at this
  exact Option.some.inj this
theorem Bx.mp (h : Bx w b l) (i : Nat) (p : Option Nat) (hi : l[i]? = some (.map p)) : w.cell? ((⟨b, 0, none⟩ : Addr).add i) = some (.map p) := by
  obtain ⟨h1, h2⟩ := List.getElem?_eq_some_iff.1 hi
  have := h.get i h1
  rw [h2] at this
  exact Option.some.inj this
theorem Bx.set {bs : List Nat} {vs : List Value} {y : CV} {F : World → Prop} (h : Bx w b l) (i : Nat) (hi : i < l.length) (hv : vs = cCV.enc y) (hbs : b ∉ bs) (k : ∀ w1, Bx w1 b (l.set i y) → Upd [b] [] w w1 → F w1) : Store w ((⟨b, 0, none⟩ : Addr).add i) vs bs F := by
  rw [← Bx.at_ (b := b) (l := l)]
  refine own_set (c := cCV) (x := y) h.sees h.own (by decide) hi hv (by simpa [Sl.blk] using hbs) fun w1 h1 o1 u1 => k w1 ⟨by simpa using h1, by rw [List.length_set]; exact o1⟩ (by simpa [Sl.blk] using u1)
end
end Go.Vc
end

section
namespace Go.Vc
set_option linter.unusedVariables false
set_option linter.unusedSimpArgs false
set_option autoImplicit false
section
variable {α : Type} {c : Cod α} {N : Nat} {w w1 : World} {L : Sl} {ls : List (List α)} {gs : List Sl}
end
end Go.Vc
end

section
namespace Go.Vc
set_option linter.unusedVariables false
set_option linter.unusedSimpArgs false
set_option autoImplicit false
/-- pairs of numbers -/
def cG : Cod (Int × Int) := ⟨2, fun p => [.int .i64 p.1, .int .i64 p.2], fun _ => rfl, by simp [Value.oneCell']⟩
/-- a Holes -/
structure Hs where
  max : Int
  buf : List Int
  gaps : List (Int × Int)
  fin : Int
  held : Int
  seen : List (Int × Int × Bool)
def keyS (k : Int × Int × Bool) : SV := .struct [.int .i64 k.1, .int .i64 k.2.1, .bool k.2.2]
def seenL (l : List (Int × Int × Bool)) : List (Value × SV) := l.map fun k => ((keyS k).enc, .struct [])
theorem MapL.upd {w w1 : World} {r : Nat} {l : List (Value × SV)} {m n : List Nat} (h : MapL w r l) (u : Upd m n w w1) (hm : r ∉ m) : MapL w1 r l := by
  obtain ⟨es, c, hb, hl⟩ := h
  exact ⟨es, c, by rw [u.keep r (Array.getElem?_eq_some_iff.1 hb).1 hm]; exact hb, hl⟩
theorem MapL.lt {w : World} {r : Nat} {l : List (Value × SV)} (h : MapL w r l) : r < w.heap.size := by
  obtain ⟨es, c, hb, hl⟩ := h
  exact (Array.getElem?_eq_some_iff.1 hb).1
/-- .. in memory: its struct lies at h, its bytes and holes are its own, its map lies at m -/
structure Hol (N : Nat) (w : World) (h : Nat) (S : Hs) (B G : Sl) (m : Nat) : Prop where
  box : Bx w h [.int S.max, .sl B, .sl G, .int S.fin, .int S.held, .map (some m)]
  buf : SeesB w B S.buf
  bo : Own N 1 w B
  gaps : Sees cG w G S.gaps
  go : Own N 2 w G
  map : MapL w m (seenL S.seen)
  a1 : h ∉ B.blk ∧ h ∉ G.blk ∧ h ≠ m
  a2 : m ∉ B.blk ∧ m ∉ G.blk
  a3 : ∀ x ∈ B.blk, x ∉ G.blk
  base : N ≤ h ∧ N ≤ m ∧ N ≤ w.heap.size
/-- its blocks -/
def hblk (h : Nat) (B G : Sl) (m : Nat) : List Nat := h :: m :: (B.blk ++ G.blk)
theorem Hol.upd {N h m : Nat} {w w1 : World} {S : Hs} {B G : Sl} {ms ns : List Nat} (H : Hol N w h S B G m) (u : Upd ms ns w w1) (hm : ∀ x ∈ hblk h B G m, x ∉ ms) : Hol N w1 h S B G m := by
  have hB : ∀ x ∈ B.blk, x ∉ ms := fun x hx => hm x (by simp [hblk, hx])
  have hG : ∀ x ∈ G.blk, x ∉ ms := fun x hx => hm x (by simp [hblk, hx])
  exact ⟨H.box.upd u (hm h (by simp [hblk])), H.buf.upd u hB, H.bo.upd u hB, H.gaps.upd u hG, H.go.upd u hG, H.map.upd u (hm m (by simp [hblk])), H.a1, H.a2, H.a3, ⟨H.base.1, H.base.2.1, by have := u.size; have := H.base.2.2; omega⟩⟩
theorem Hol.old {N h m : Nat} {w w1 : World} {S : Hs} {B G : Sl} {ns : List Nat} (H : Hol N w h S B G m) (u : Upd [] ns w w1) : Hol N w1 h S B G m := H.upd u (by simp)
theorem Hol.lt {N h m : Nat} {w : World} {S : Hs} {B G : Sl} (H : Hol N w h S B G m) : ∀ x ∈ hblk h B G m, N ≤ x ∧ x < w.heap.size := by
  intro x hx
  simp only [hblk, List.mem_cons, List.mem_append] at hx
  rcases hx with rfl | rfl | hx | hx
  · exact ⟨H.base.1, H.box.lt⟩
  · exact ⟨H.base.2.1, H.map.lt⟩
  · exact H.bo.blk x hx
  · exact H.go.blk x hx
/-! what it answers -/
def topS (S : Hs) : Int := match S.gaps.getLast? with | none => S.max | some g => if g.2 = S.max then g.1 else S.max
def errS (S : Hs) (off : Int) (n : Nat) (more : Bool) : Int :=
  if 65535 < n then 2 else if off < 0 ∨ off.tmod 8 ≠ 0 ∨ (more = true ∧ n % 8 ≠ 0) then 110 else if n = 0 then 111
  else if S.max < off ∨ S.max < off + n then 112 else if 0 ≤ S.fin ∧ more = false ∧ off + n ≠ S.fin then 114
  else if 0 ≤ S.fin ∧ more = true ∧ S.fin < off + n then 113 else if S.fin < 0 ∧ more = false ∧ off + n < topS S then 114 else 0
/-- the holes behind a piece from off to e; how many bytes are new; the bytes -/
def cutG (off e : Int) : List (Int × Int) → List (Int × Int)
  | [] => []
  | g :: r => if e ≤ g.1 then g :: r else if g.2 ≤ off then g :: cutG off e r else (if g.1 < max g.1 off then [(g.1, max g.1 off)] else []) ++ (if min g.2 e < g.2 then [(min g.2 e, g.2)] else []) ++ cutG off e r
def newN (off e : Int) : List (Int × Int) → Int
  | [] => 0
  | g :: r => if e ≤ g.1 then 0 else if g.2 ≤ off then newN off e r else (min g.2 e - max g.1 off) + newN off e r
/-- bytes are laid over, from place i on -/
def blit (l : List Int) (i : Nat) (d : List Int) : List Int := l.take i ++ d ++ l.drop (i + d.length)
def putB (off e : Int) (data : List Int) : List (Int × Int) → List Int → List Int
  | [], l => l
  | g :: r, l => if e ≤ g.1 then l else if g.2 ≤ off then putB off e data r l else
    putB off e data r (blit l (max g.1 off).toNat ((data.take (min g.2 e - off).toNat).drop (max g.1 off - off).toNat))
def finG (S : Hs) (e : Int) (more : Bool) (gs : List (Int × Int)) : List (Int × Int) :=
  if more = false ∧ S.fin < 0 then match gs.getLast? with
    | some g => if g.2 = S.max then (if e ≤ g.1 then gs.dropLast else gs.dropLast ++ [(g.1, e)]) else gs
    | none => gs
  else gs
def putS (S : Hs) (off : Int) (data : List Int) (more : Bool) : Hs :=
  let e := off + data.length
  { max := S.max, buf := putB off e data S.gaps (S.buf ++ List.replicate (e.toNat - S.buf.length) 0),
    gaps := finG S e more (cutG off e S.gaps), fin := if more = false ∧ S.fin < 0 then e else S.fin, held := S.held + newN off e S.gaps,
    seen := if (off, (data.length : Int), more) ∈ S.seen then S.seen else S.seen ++ [(off, (data.length : Int), more)] }
def sameS (S : Hs) (off : Int) (data : List Int) (more : Bool) : Bool :=
  decide ((off, (data.length : Int), more) ∈ S.seen) && decide ((((putS S off data more).buf.take (off + data.length).toNat).drop off.toNat) = data)
end Go.Vc
end

section
open Go Go.Vc Go.Proofs
set_option linter.unusedVariables false
set_option linter.unusedSimpArgs false
set_option autoImplicit false
namespace Go.Vc.Stop
section
variable {w : World} {R : SV → World → Prop} {N h m : Nat} {S : Hs} {B G : Sl}
/-- bytes compared -/
theorem c62 {a b : Sl} {la lb : List Int} (ha : SeesB w a la) (hb : SeesB w b lb) (ba : Byt la) (bb : Byt lb) (k : R (.bool (decide (la = lb))) w) : Ret Try.prog 62 [.slice a, .slice b] w R := by
  refine f62_of _ _ _ _ ?_
  unfold vc62
  exact alike (R := fun x => R (.bool x) w) ha hb ba bb k
/-- bytes copied -/
theorem c54 {b : Sl} {l : List Int} (hs : SeesB w b l) (hl : l.length ≤ 140737488355328) (k : ∀ s w1, Upd [] [] w w1 → SeesB w1 s l → Own w.heap.size 1 w1 s → R (.slice s) w1) : Ret Try.prog 54 [.slice b] w R := by
  refine f54_of _ _ _ ?_
  unfold vc54
  refine brb (fun hn => ?_) (fun hn => ?_)
  · have : l = [] := by
      cases l with
      | nil => rfl
      | cons x l => have := hs.isSome (by decide) (by simp); simp_all
    subst this
    exact k _ w (Upd.refl _) (Sees.nil _ _ _ _) (Own.none _ _ _)
  · intro b1 w1 u1 hr1
    have n1 := u1.new (b := b1) (by simp)
    have y1 := u1.size
    refine append_own (c := cU8) (l := []) (Sees.nil _ _ _ _) (own_row (N := w.heap.size) (cap := 0) hr1 (by omega) rfl (Nat.le_refl _)) (hs.old u1) (by omega) (by simp) (by decide) (by simpa using hl) fun r w2 hr2 ho2 u2 _ => ?_
    exact k r w2 (u1.forget.step0 u2 (by simp [Sl.blk]; omega)) (by simpa using hr2) ho2
theorem get0 (H : Hol N w h S B G m) : w.cell? ⟨h, 0, none⟩ = some (.int .i64 S.max) := by have := H.box.int 0 S.max rfl; rwa [add_zero] at this
theorem c48 (H : Hol N w h S B G m) (k : ∀ w1, Upd [] [] w w1 → R (.tuple [.int .i64 (imax S.fin 0), .bool (decide (S.fin ≥ 0))]) w1) : Ret Try.prog 48 [.ptr (some ⟨h, 0, none⟩)] w R := by
  refine f48_of _ _ _ ?_
  unfold vc48
  exact ⟨S.fin, H.box.int 3 S.fin rfl, S.fin, H.box.int 3 S.fin rfl, fun w1 u => k w1 u⟩
def wholeS (S : Hs) : Bool := decide (S.fin ≥ 0) && S.gaps.isEmpty
theorem c53 (H : Hol N w h S B G m) (k : R (.bool (wholeS S)) w) : Ret Try.prog 53 [.ptr (some ⟨h, 0, none⟩)] w R := by
  refine f53_of _ _ _ ?_
  unfold vc53
  have hgl := H.gaps.len
  refine ⟨S.fin, H.box.int 3 S.fin rfl, brd (fun hf => ⟨G, H.box.sl 2 G rfl, ?_⟩) (fun hf => ?_)⟩
  · have : ((G.len : Int) == 0) = wholeS S := by
      unfold wholeS
      rw [decide_eq_true hf, Bool.true_and, hgl]
      cases S.gaps <;> simp <;> omega
    rw [this]; exact k
  · have : wholeS S = false := by unfold wholeS; rw [decide_eq_false hf]; rfl
    rw [this] at k; exact k
theorem c28 (H : Hol N w h S B G m) (hf : wholeS S = true → S.fin ≤ S.buf.length) (hl : S.buf.length ≤ 140737488355328) (k : ∀ s w1, Upd [] [] w w1 → SeesB w1 s (if wholeS S then S.buf.take S.fin.toNat else []) → Own w.heap.size 1 w1 s → R (.tuple [.slice s, .bool (wholeS S)]) w1) : Ret Try.prog 28 [.ptr (some ⟨h, 0, none⟩)] w R := by
  refine f28_of _ _ _ ?_
  unfold vc28
  refine c53 H ⟨_, rfl, brn (fun hw => ?_) (fun hw => ?_)⟩
  · have := k ⟨none, 0, 0⟩ w (Upd.refl _) (by rw [hw]; exact Sees.nil _ _ _ _) (Own.none _ _ _)
    rwa [hw] at this
  · have hf0 : 0 ≤ S.fin := by unfold wholeS at hw; simp at hw; exact hw.1
    have hf := hf hw
    have hbl := H.buf.len
    have hcap := H.bo.le
    refine ⟨B, H.box.sl 1 B rfl, S.fin, H.box.int 3 S.fin rfl, needIxLe hf0 (by omega) fun w1 u1 => ?_⟩
    have hs := (H.buf.old u1).subB (lo := 0) (hi := S.fin.toNat) (mx := B.cap) (by omega) (by omega) (by omega)
    refine c54 hs (by simp; omega) fun s w2 u2 hs2 ho2 => ⟨_, rfl, ?_⟩
    have := k s w2 (u1.then u2) (by rw [hw]; simpa using hs2) (ho2.mono (by have := u1.size; omega))
    rwa [hw] at this
theorem topS_last {l : List (Int × Int)} (hl : l ≠ []) (hS : S.gaps = l) : topS S = if (l[l.length - 1]'(by have := List.length_pos_iff.2 hl; omega)).2 = S.max then (l[l.length - 1]'(by have := List.length_pos_iff.2 hl; omega)).1 else S.max := by
  unfold topS
  rw [hS, List.getLast?_eq_some_getLast hl, List.getLast_eq_getElem]
theorem c68 (H : Hol N w h S B G m) (hl : S.gaps.length ≤ 1099511627776) (k : ∀ w1, Upd [] [] w w1 → R (.int .i64 (topS S)) w1) : Ret Try.prog 68 [.ptr (some ⟨h, 0, none⟩)] w R := by
  refine f68_of _ _ _ ?_
  unfold vc68
  have hgl := H.gaps.len
  refine ⟨G, H.box.sl 2 G rfl, bre (fun h0 => ?_) (fun h0 => ?_)⟩
  · have hn : S.gaps = [] := List.eq_nil_of_length_eq_zero (by omega)
    have := k w (Upd.refl _)
    unfold topS at this
    rw [hn] at this
    exact ⟨S.max, get0 H, this⟩
  · have hne : S.gaps ≠ [] := by intro e; rw [e] at hgl; simp at hgl; omega
    have hi : S.gaps.length - 1 < S.gaps.length := by omega
    have ew : wr .i64 ((G.len : Int) - 1) = ((S.gaps.length - 1 : Nat) : Int) := by rw [wr_i64 (by omega) (by omega)]; omega
    rw [ew, Int.toNat_natCast]
    refine ⟨G, H.box.sl 2 G rfl, needIx (by omega) (by omega) (H.gaps.isSome (by decide) (by omega)) ⟨fun i => if i = 0 then S.gaps[S.gaps.length - 1].1 else S.gaps[S.gaps.length - 1].2, fun i hi2 => ?_, fun b => ⟨S.max, get0 H, ?_⟩⟩⟩
    · rw [Nat.zero_add]
      have e0 := H.gaps.elem hi 0 (by simp [cG])
      have e1 := H.gaps.elem hi 1 (by simp [cG])
      match i, hi2 with
      | 0, _ => exact e0
      | 1, _ => exact e1
    · simp only [if_true, Nat.one_ne_zero, if_false]
      have ht := topS_last hne rfl (S := S)
      refine bre (fun he => fun w1 u1 => ?_) (fun he => ⟨S.max, get0 H, fun w1 u1 => ?_⟩)
      · have := k w1 u1.forget
        rwa [ht, if_pos he] at this
      · have := k w1 u1.forget
        rwa [ht, if_neg he] at this
theorem c61 {off : Int} {data : Sl} {n : Nat} {more : Bool} (H : Hol N w h S B G m) (hl : S.gaps.length ≤ 1099511627776) (hd : data.len = n) (hmax : S.max ≤ 65535) (k : ∀ w1, Upd [] [] w w1 → R (.int .i64 (errS S off n more)) w1) : Ret Try.prog 61 [.ptr (some ⟨h, 0, none⟩), .int .i64 off, .slice data, .bool more] w R := by
  refine f61_of _ _ _ _ _ _ ?_
  unfold vc61
  subst hd
  have k0 := k w (Upd.refl _)
  refine brd (fun h1 => ?_) (fun h1 => ?_)
  · have e : errS S off data.len more = 2 := by unfold errS; rw [if_pos (by omega)]
    rwa [e] at k0
  intro J hJ
  have key : J (decide (off < 0 ∨ off.tmod 8 ≠ 0 ∨ (more = true ∧ data.len % 8 ≠ 0))) w := by
    refine hJ _ _ (brd (fun h2 => ?_) (fun h2 => bre (fun h3 => ?_) (fun h3 => ⟨S.max, get0 H, brd (fun h4 => ?_) (fun h4 => ⟨S.max, get0 H, ?_⟩)⟩)))
    · have e : errS S off data.len more = 110 := by unfold errS; rw [if_neg (by omega), if_pos h2]
      rwa [e] at k0
    · have e : errS S off data.len more = 111 := by unfold errS; rw [if_neg (by omega), if_neg h2, if_pos (by omega)]
      rwa [e] at k0
    · have e : errS S off data.len more = 112 := by unfold errS; rw [if_neg (by omega), if_neg h2, if_neg (by omega), if_pos (by omega)]
      rwa [e] at k0
    have ho : 0 ≤ off := by
      rcases Int.lt_or_le off 0 with q | q
      · exact absurd (.inl q) h2
      · exact q
    have ew : wr .i64 (off + (data.len : Int)) = off + data.len := wr_i64 (by omega) (by omega)
    rw [ew]
    refine brd (fun h5 => ?_) (fun h5 => ?_)
    · have e : errS S off data.len more = 112 := by unfold errS; rw [if_neg (by omega), if_neg h2, if_neg (by omega), if_pos (by omega)]
      rwa [e] at k0
    have e0 : errS S off data.len more = if 0 ≤ S.fin ∧ more = false ∧ off + data.len ≠ S.fin then 114
        else if 0 ≤ S.fin ∧ more = true ∧ S.fin < off + data.len then 113 else if S.fin < 0 ∧ more = false ∧ off + data.len < topS S then 114 else 0 := by
      unfold errS; rw [if_neg (by omega), if_neg h2, if_neg (by omega), if_neg (by omega)]
    intro J2 hJ2
    have key2 : J2 (decide (0 ≤ S.fin ∧ more = false ∧ off + data.len ≠ S.fin)) w := by
      refine hJ2 _ _ (brd (fun h6 => ?_) (fun h6 => ?_))
      · rw [if_pos h6] at e0
        rwa [e0] at k0
      rw [if_neg h6] at e0
      intro J3 hJ3
      have key3 : J3 (decide (0 ≤ S.fin ∧ more = true ∧ S.fin < off + data.len)) w := by
        refine hJ3 _ _ (brd (fun h7 => ?_) (fun h7 => ⟨S.fin, H.box.int 3 S.fin rfl, brd (fun h8 => brn (fun h9 => ?_) (fun h9 => ?_)) (fun h8 => ?_)⟩))
        · rw [if_pos h7] at e0
          rwa [e0] at k0
        · rw [if_neg h7] at e0
          refine c68 H hl fun w1 u1 => ⟨_, rfl, brd (fun h10 => ?_) (fun h10 => ?_)⟩
          · rw [if_pos ⟨h8, h9, by omega⟩] at e0
            have := k w1 u1
            rwa [e0] at this
          · rw [if_neg (by intro q; omega)] at e0
            have := k w1 u1
            rwa [e0] at this
        · rw [if_neg h7, if_neg (by simp [h9])] at e0
          rwa [e0] at k0
        · rw [if_neg h7, if_neg (by omega)] at e0
          rwa [e0] at k0
      refine ⟨S.fin, H.box.int 3 S.fin rfl, brd (fun h7 => brb (fun h8 => ⟨S.fin, H.box.int 3 S.fin rfl, ?_⟩) (fun h8 => ?_)) (fun h7 => ?_)⟩
      · rw [show decide (off + (data.len : Int) > S.fin) = decide (0 ≤ S.fin ∧ more = true ∧ S.fin < off + data.len) from decide_eq_decide.2 ⟨fun q => ⟨h7, h8, q⟩, fun q => q.2.2⟩]
        exact key3
      · rw [show decide (0 ≤ S.fin ∧ more = true ∧ S.fin < off + data.len) = false from decide_eq_false (by simp [h8])] at key3
        exact key3
      · rw [show decide (0 ≤ S.fin ∧ more = true ∧ S.fin < off + data.len) = false from decide_eq_false (by intro q; exact h7 q.1)] at key3
        exact key3
    refine ⟨S.fin, H.box.int 3 S.fin rfl, brd (fun h7 => brn (fun h8 => ⟨S.fin, H.box.int 3 S.fin rfl, ?_⟩) (fun h8 => ?_)) (fun h7 => ?_)⟩
    · rw [show (off + (data.len : Int) != S.fin) = decide (0 ≤ S.fin ∧ more = false ∧ off + data.len ≠ S.fin) by
        by_cases q : off + (data.len : Int) = S.fin
        · rw [decide_eq_false (by simp [q])]; simp [q]
        · rw [decide_eq_true ⟨h7, h8, q⟩]; simp [q]]
      exact key2
    · rw [show decide (0 ≤ S.fin ∧ more = false ∧ off + data.len ≠ S.fin) = false from decide_eq_false (by simp [h8])] at key2
      exact key2
    · rw [show decide (0 ≤ S.fin ∧ more = false ∧ off + data.len ≠ S.fin) = false from decide_eq_false (by intro q; exact h7 q.1)] at key2
      exact key2
  refine brd (fun h2 => ?_) (fun h2 => bre' (fun h3 => ?_) (fun h3 => brb (fun h4 => ?_) (fun h4 => ?_)))
  · rwa [decide_eq_true (.inl h2)] at key
  · rwa [decide_eq_true (.inr (.inl h3))] at key
  · rw [show (Int.tmod (data.len : Int) 8 != 0) = decide (off < 0 ∨ off.tmod 8 ≠ 0 ∨ (more = true ∧ data.len % 8 ≠ 0)) by
      have e8 : Int.tmod (data.len : Int) 8 = ((data.len % 8 : Nat) : Int) := by rw [Int.tmod_eq_emod_of_nonneg (by omega)]; rfl
      rw [e8]
      by_cases q : data.len % 8 = 0
      · rw [decide_eq_false (by intro x; rcases x with x | x | x; exact h2 x; exact x h3; exact x.2 q)]; simp [q]
      · rw [decide_eq_true (.inr (.inr ⟨h4, q⟩))]; simp; omega]
    exact key
  · rw [decide_eq_false (by intro x; rcases x with x | x | x; exact h2 x; exact x h3; rw [h4] at x; cases x.1)] at key
    exact key
/-- a new one -/
theorem c47 {mx : Int} (k0 : (mx < 1 ∨ 65535 < mx) → R (.tuple [.ptr none, .int .i64 1]) w)
    (k : 1 ≤ mx → mx ≤ 65535 → ∀ h m G w1, Upd [] [] w w1 → Hol w.heap.size w1 h ⟨mx, [], [(0, mx)], -1, 0, []⟩ ⟨none, 0, 0⟩ G m → R (.tuple [.ptr (some ⟨h, 0, none⟩), .int .i64 0]) w1) : Ret Try.prog 47 [.int .i64 mx] w R := by
  refine f47_of _ _ _ ?_
  unfold vc47
  intro J hJ
  refine brd (fun h1 => k0 (.inl h1)) (fun h1 => brd (fun h2 => k0 (.inr h2)) (fun h2 => ?_))
  refine hJ _ ?_
  intro b1 w1 u1 hr1 b2 w2 u2 hm2 b3 w3 u3 hr3
  have n1 := u1.new (b := b1) (by simp)
  have n2 := u2.new (b := b2) (by simp)
  have n3 := u3.new (b := b3) (by simp)
  have y1 := u1.size; have y2 := u2.size; have y3 := u3.size
  refine k (by omega) (by omega) b3 b2 ⟨some ⟨b1, 0, none⟩, 1, 1⟩ w3 ((u1.then u2).then u3) ⟨Bx.mk' hr3 rfl, Sees.nil _ _ _ _, Own.none _ _ _, ?_, ?_, hm2.upd u3 (by simp), ?_, ?_, by simp [Sl.blk], ⟨by omega, by omega, by omega⟩⟩
  · exact ((sees_row (c := cG) hr1 [(0, mx)] rfl rfl).old u2).old u3
  · exact ((own_row hr1 n1.1 (cap := 1) rfl (Nat.le_refl _)).old u2).old u3
  · simp [Sl.blk]; omega
  · simp [Sl.blk]; omega
end
end Go.Vc.Stop
end

section
open Go Go.Vc Go.Proofs
set_option linter.unusedVariables false
set_option linter.unusedSimpArgs false
set_option autoImplicit false
namespace Go.Vc.Stop
theorem und117 : Try.prog.underlying 117 = some (.map 131 132) := by kernel_rfl
theorem keyLaw131 : Go.WideMaps.KeyLaw Try.prog 131 := deep_law_laid (by kernel_rfl) (m := 5) (by omega) (Nat.le_of_ble_eq_true (by kernel_rfl)) (by kernel_rfl) (by kernel_rfl)
noncomputable def und131f : Array Field := match Try.prog.underlying 131 with | some (.struct fs) => fs | _ => #[]
theorem und131 : Try.prog.underlying 131 = some (.struct und131f) := by kernel_rfl
theorem u3 : Try.prog.underlying 3 = some (.int .i64) := by kernel_rfl
theorem u4 : Try.prog.underlying 4 = some .bool := by kernel_rfl
theorem cl131 : Try.prog.cellsOf 131 = 3 := by kernel_rfl
theorem cl3 : Try.prog.cellsOf 3 = 1 := by kernel_rfl
theorem cl4 : Try.prog.cellsOf 4 = 1 := by kernel_rfl
theorem f131 : und131f.toList.map (fun f => (f.type, f.offset)) = [(3, 0), (3, 1), (4, 2)] := by kernel_rfl
theorem f131n : und131f.all (·.name != "_") = true := by kernel_rfl
theorem kt131 : Try.prog.keyType 131 = true := by kernel_rfl
theorem mapM_of {α β : Type} {g : α → Nat × Nat} {F : Nat × Nat → Option β} : ∀ (l : List α), l.mapM (fun f => F (g f)) = (l.map g).mapM F
  | [] => rfl
  | x :: r => by simp only [List.mapM_cons, List.map_cons, mapM_of r]
theorem tsz : ∃ n, Try.prog.types.size + 1 = n + 2 := ⟨Try.prog.types.size - 1, by have : 1 ≤ Try.prog.types.size := Nat.le_of_ble_eq_true (by kernel_rfl); omega⟩
/-- is it a key? -/
def KeyR (k : Int × Int × Bool) : Prop := (-9223372036854775808 ≤ k.1 ∧ k.1 ≤ 9223372036854775807) ∧ -9223372036854775808 ≤ k.2.1 ∧ k.2.1 ≤ 9223372036854775807
theorem lit_wf {n : Int} (h1 : -9223372036854775808 ≤ n) (h2 : n ≤ 9223372036854775807) : (Lit.int .i64 n).wf = true := by
  simp [Lit.wf, IntKind.min, IntKind.max, IntKind.wrap, IntKind.bits, IntKind.signed]
  try omega
theorem key_ok {k : Int × Int × Bool} (h : KeyR k) : ∃ lx, keyOf Try.prog 131 (keyS k).enc = some lx := by
  obtain ⟨n, hn⟩ := tsz
  have w1 := lit_wf h.1.1 h.1.2
  have w2 := lit_wf h.2.1 h.2.2
  have hf : Value.formed Try.prog 131 (keyS k).enc = true := by
    simp [Value.formed, keyS, SV.enc, SV.cellsL, SV.cells, und131, cl131]
  unfold keyOf
  rw [und131, hn]
  simp only [kt131, hf, Bool.and_self, if_true]
  have e := mapM_of (g := fun f : Field => (f.type, f.offset)) (F := fun p => Try.prog.keyLits (n + 1) p.1 (((keyS k).enc.cells.toList.drop p.2).take (Try.prog.cellsOf p.1))) und131f.toList
  have hl : (keyS k).enc.cells.toList = [.int .i64 k.1, .int .i64 k.2.1, .bool k.2.2] := by simp [keyS, SV.enc, SV.cellsL, SV.cells, Value.cells]
  have : Try.prog.keyLits (n + 2) 131 (keyS k).enc.cells.toList = some [.int .i64 k.1, .int .i64 k.2.1, .bool k.2.2] := by
    unfold Program.keyLits
    simp only [und131]
    rw [if_pos ⟨by rw [hl, cl131]; rfl, f131n⟩, e, f131]
    rw [hl]
    simp [cl3, cl4, Program.keyLits, u3, u4, w1, w2]
  rw [this]
  exact ⟨_, rfl⟩
theorem keyS_inj {k k' : Int × Int × Bool} (h : (keyS k).enc = (keyS k').enc) : k = k' := by
  simp [keyS, SV.enc, SV.cellsL, SV.cells] at h
  obtain ⟨a, b, c⟩ := k
  obtain ⟨a', b', c'⟩ := k'
  simp at h ⊢
  exact h
end Go.Vc.Stop
end

section
namespace Go.Vc
set_option linter.unusedVariables false
set_option linter.unusedSimpArgs false
set_option autoImplicit false
/-- bytes copied into the middle of one's own -/
theorem copy_win {N lo hi mx : Nat} {w : World} {s x : Sl} {l m : List Int} {bs : List Nat} {F : World → Prop} (h : SeesB w s l) (o : Own N 1 w s) (hx : SeesB w x m) (hhi : hi = lo + m.length) (hhl : hi ≤ l.length) (hmx : hi ≤ mx) (h0 : 0 < m.length) (hbs : ∀ b ∈ s.blk, b ∉ bs)
    (k : ∀ w1, SeesB w1 s (blit l lo m) → Own N 1 w1 s → Upd s.blk [] w w1 → F w1) : Copy 1 (s.sub 1 lo hi mx) x bs w F := by
  subst hhi
  have hlen := h.len
  have hxl := hx.len
  have hle := o.le
  obtain ⟨a, hp⟩ := h.ptr_some (by decide) (by omega)
  obtain ⟨hs, hc⟩ := o.cell a hp
  have hrow := h.row
  rw [hp] at hrow
  have hsp : (s.sub 1 lo (lo + m.length) mx).ptr = some (a.add (lo * 1)) := by
    simp [Sl.sub, hp]; omega
  have hsl : (s.sub 1 lo (lo + m.length) mx).len = m.length := by simp [Sl.sub]
  refine ⟨cU8.cells m, ?_, ?_⟩
  · have := hx.rowAt
    rw [show Nat.min x.len (s.sub 1 lo (lo + m.length) mx).len = x.len by rw [hsl, hxl]; exact Nat.min_self _]
    exact this
  · rw [hsp]
    have hlm : (cU8.cells m).length = m.length := by rw [cU8.cells_length]; simp [cU8]
    refine ⟨fun i hi => ?_, ?_, ?_⟩
    · rw [add_add]
      exact hc _ (by omega)
    · simp only [add_block]
      exact hbs _ (by simp [blk_some hp])
    · show F (w.setCells (a.add (lo * 1)).block (a.add (lo * 1)).off (cU8.cells m))
      rw [off_add hs, add_block]
      refine k _ ⟨by simp [blit]; omega, ?_⟩ (o.setCells _ _ _) ((Upd.setCells w a.block _ _).wide (by simp [blk_some hp]))
      have e2 : Cells w (some a) (cU8.cells (l.take lo) ++ (cU8.cells ((l.drop lo).take m.length) ++ cU8.cells (l.drop (lo + m.length)))) := by
        rw [← cU8.cells_append, ← cU8.cells_append, ← List.drop_drop, List.take_append_drop, List.take_append_drop]; exact hrow
      have l1 : (cU8.cells (l.take lo)).length = lo := by rw [cU8.cells_length, List.length_take]; simp [cU8]; omega
      have l2 : (cU8.cells ((l.drop lo).take m.length)).length = m.length := by rw [cU8.cells_length, List.length_take, List.length_drop]; simp [cU8]; omega
      have r1 := e2.app.1
      have r2 := e2.app.2.app.2
      rw [l1, l2] at r2
      rw [hp]
      unfold blit
      rw [cU8.cells_append, cU8.cells_append]
      refine Cells.mk (Cells.mk ?_ ?_) ?_
      · have := cells_apart (vs := cU8.cells m) hs (lo * 1) 0 (by simpa using r1) (.inl (by rw [l1]; omega))
        simpa using this
      · rw [l1]
        have := cells_write (w := w) (vs := cU8.cells m) hs (lo * 1) (fun i hi => (hc _ (by omega)).1)
        simpa using this
      · have e3 : (cU8.cells (l.take lo) ++ cU8.cells m).length = lo + m.length := by rw [List.length_append, l1, hlm]
        rw [e3]
        have := cells_apart (vs := cU8.cells m) hs (lo * 1) (lo + m.length) (by simpa [add_add] using r2) (.inr (by omega))
        exact this
end Go.Vc
end

section
open Go Go.Vc Go.Proofs
set_option linter.unusedVariables false
set_option linter.unusedSimpArgs false
set_option autoImplicit false
namespace Go.Vc.Stop
/-- a Holes in order, as far as the walk needs it -/
structure OkS (S : Hs) : Prop where
  mx : 1 ≤ S.max ∧ S.max ≤ 65535
  gp : ∀ g ∈ S.gaps, 0 ≤ g.1 ∧ g.1 < g.2 ∧ g.2 ≤ S.max
  gl : S.gaps.length ≤ 65536
  bl : S.buf.length ≤ 65535
  bb : Byt S.buf
  he : 0 ≤ S.held ∧ S.held ≤ 65535
  fi : -1 ≤ S.fin ∧ S.fin ≤ 65535
  ks : ∀ k ∈ S.seen, KeyR k
theorem errS_ok {S : Hs} {off : Int} {n : Nat} {more : Bool} (h : errS S off n more = 0) : n ≤ 65535 ∧ 0 ≤ off ∧ off.tmod 8 = 0 ∧ (more = true → n % 8 = 0) ∧ 0 < n ∧ off + n ≤ S.max ∧ (0 ≤ S.fin → more = false → off + n = S.fin) ∧ (0 ≤ S.fin → more = true → off + n ≤ S.fin) ∧ (S.fin < 0 → more = false → topS S ≤ off + n) := by
  unfold errS at h
  split at h; · cases h
  split at h; · cases h
  rename_i h1 h2
  split at h; · cases h
  split at h; · cases h
  split at h; · cases h
  split at h; · cases h
  split at h; · cases h
  rename_i h3 h4 h5 h6 h7
  have a1 : 0 ≤ off := by
    rcases Int.lt_or_le off 0 with q | q
    · exact absurd (.inl q) h2
    · exact q
  have a2 : off.tmod 8 = 0 := Classical.byContradiction fun q => h2 (.inr (.inl q))
  refine ⟨by omega, a1, a2, fun hm => Classical.byContradiction fun q => h2 (.inr (.inr ⟨hm, q⟩)), by omega, by omega, fun x y => Classical.byContradiction fun q => h5 ⟨x, y, q⟩, fun x y => ?_, fun x y => ?_⟩
  · exact Int.not_lt.1 fun q => h6 ⟨x, y, q⟩
  · exact Int.not_lt.1 fun q => h7 ⟨x, y, q⟩
theorem blit_len {l d : List Int} {i : Nat} (h : i + d.length ≤ l.length) : (blit l i d).length = l.length := by simp [blit]; omega
theorem blit_byt {l d : List Int} {i : Nat} (hl : Byt l) (hd : Byt d) : Byt (blit l i d) := by
  intro x hx
  simp only [blit, List.mem_append] at hx
  rcases hx with (hx | hx) | hx
  · exact hl x (List.mem_of_mem_take hx)
  · exact hd x hx
  · exact hl x (List.mem_of_mem_drop hx)
theorem newN_bound {off e : Int} (h1 : 0 ≤ off) (h2 : e ≤ 65535) (hoe : off < e) : ∀ (l : List (Int × Int)), (∀ g ∈ l, 0 ≤ g.1 ∧ g.1 < g.2) → 0 ≤ newN off e l ∧ newN off e l ≤ 65535 * l.length
  | [], _ => by simp [newN]
  | g :: r, h => by
    have ih := newN_bound h1 h2 hoe r (fun x hx => h x (by simp [hx]))
    have hg := h g (by simp)
    unfold newN
    simp only [List.length_cons]
    split
    · omega
    · split
      · omega
      · omega
section
variable {w : World} {R : SV → World → Prop} {N h m : Nat} {S : Hs} {B G : Sl}
theorem mem_seen {l : List (Int × Int × Bool)} {k : Int × Int × Bool} : (∃ p ∈ seenL l, p.1 = (keyS k).enc) ↔ k ∈ l := by
  simp only [seenL, List.mem_map]
  constructor
  · rintro ⟨p, ⟨k', hk', rfl⟩, hp⟩
    rw [← keyS_inj hp]; exact hk'
  · intro hk
    exact ⟨_, ⟨k, hk, rfl⟩, rfl⟩
theorem keys_ok {l : List (Int × Int × Bool)} {k : Int × Int × Bool} (hl : ∀ k ∈ l, KeyR k) (hk : KeyR k) : KeysOk Try.prog 131 (keyS k).enc (seenL l) := by
  refine ⟨keyLaw131, key_ok hk, fun p hp => ?_⟩
  simp only [seenL, List.mem_map] at hp
  obtain ⟨k', hk', rfl⟩ := hp
  exact key_ok (hl k' hk')
theorem seen_shape {l : List (Int × Int × Bool)} : AllShape (.struct false []) (seenL l) := by
  intro p hp
  simp only [seenL, List.mem_map] at hp
  obtain ⟨k', _, rfl⟩ := hp
  rfl
theorem seen_set {l : List (Int × Int × Bool)} {k : Int × Int × Bool} {l' : List (Value × SV)} (h : SetAt (seenL l) (keyS k).enc (.struct []) l') : l' = seenL (if k ∈ l then l else l ++ [k]) := by
  rcases h with ⟨h1, rfl⟩ | ⟨i, hi, h1, rfl⟩
  · have : k ∉ l := fun hk => by
      obtain ⟨p, hp, e⟩ := mem_seen.2 hk
      exact h1 p hp e
    rw [if_neg this]
    simp [seenL]
  · have hm : k ∈ l := mem_seen.1 ⟨(seenL l)[i], List.getElem_mem hi, h1⟩
    rw [if_pos hm]
    have : (seenL l)[i] = ((keyS k).enc, SV.struct []) := by
      apply Prod.ext
      · exact h1
      · simp [seenL]
    rw [← this]
    exact List.set_getElem_self hi
/-- the map is told, and it is returned -/
theorem putEnd {off E n : Int} {dl : Int} {more bb : Bool} {bs : List Nat} {b0 : Nat} {S' : Hs} {B' G' : Sl} {w0 w1 : World} (H : Hol N w1 h S' B' G' m) (hk : ∀ k ∈ S'.seen, KeyR k) (hkr : KeyR (off, dl, more)) (hbs : m ∉ bs)
    (hb0 : w0.heap.size ≤ b0) (V : Upd (hblk h B G m) [] w0 w1) (hb02 : b0 ∉ hblk h B' G' m)
    (k : ∀ w2, Upd (hblk h B G m) [] w0 w2 → Hol N w2 h { S' with seen := if (off, dl, more) ∈ S'.seen then S'.seen else S'.seen ++ [(off, dl, more)] } B' G' m → R (.tuple [.struct [.int .i64 n, .int .i64 E, .bool bb], .int .i64 0]) w2) :
    deref (some ⟨h, 0, none⟩) fun a => ∃ r : Option Nat, w1.cell? (a.add 5) = some (.map r) ∧ derefN r fun r => ∀ w2, Upd [] [] w1 w2 → Try.prog.underlying 117 = some (.map 131 132) ∧ r ∉ bs ∧ ∃ l, MapL w2 r l ∧ KeysOk Try.prog 131 (SV.struct [.int .i64 off, .int .i64 dl, .bool more]).enc l ∧
      ∀ l' w3, SetAt l (SV.struct [.int .i64 off, .int .i64 dl, .bool more]).enc (.struct []) l' → Upd [r] [] w2 w3 → MapL w3 r l' → ∀ w4, Upd [b0] [] w3 w4 → R (.tuple [.struct [.int .i64 n, .int .i64 E, .bool bb], .int .i64 0]) w4 := by
  refine ⟨some m, H.box.mp 5 (some m) rfl, fun w2 u2 => ⟨und117, hbs, seenL S'.seen, H.map.upd u2 (by simp), keys_ok (k := (off, dl, more)) hk hkr, fun l' w3 hs u3 hm3 w4 u4 => ?_⟩⟩
  have e := seen_set (k := (off, dl, more)) hs
  subst e
  have H2 := H.old u2
  have a1 := H2.a1; have a2 := H2.a2
  have q : ∀ x ∈ hblk h B' G' m, x ≠ b0 := fun x hx e => hb02 (e ▸ hx)
  have HB : ∀ x ∈ B'.blk, x ∉ [m] ∧ x ∉ [b0] := fun x hx => ⟨fun e => a2.1 (by simp at e; exact e ▸ hx), by simpa using q x (by simp [hblk, hx])⟩
  have HG : ∀ x ∈ G'.blk, x ∉ [m] ∧ x ∉ [b0] := fun x hx => ⟨fun e => a2.2 (by simp at e; exact e ▸ hx), by simpa using q x (by simp [hblk, hx])⟩
  have Hh : h ∉ [m] ∧ h ∉ [b0] := ⟨by simpa using a1.2.2, by simpa using q h (by simp [hblk])⟩
  have z3 := u3.size; have z4 := u4.size
  have V2 : Upd (hblk h B G m) [] w0 w2 := V.step u2 (by simp)
  have V3 : Upd (hblk h B G m) [] w0 w3 := V2.step u3 (fun x hx => .inr (by rw [List.mem_singleton] at hx; subst hx; simp [hblk]))
  have V4 : Upd (hblk h B G m) [] w0 w4 := V3.step u4 (fun x hx => .inl (by rw [List.mem_singleton] at hx; subst hx; exact hb0))
  have b4 := (H2.box.upd u3 Hh.1).upd u4 Hh.2
  have c4_MISSING := (H2.buf.upd u3 fun x hx => (HB x hx).1).upd u4 fun x hx => (HB x hx).2
  have d4 := (H2.bo.upd u3 fun x hx => (HB x hx).1).upd u4 fun x hx => (HB x hx).2
  have e4 := (H2.gaps.upd u3 fun x hx => (HG x hx).1).upd u4 fun x hx => (HG x hx).2
  have f4 := (H2.go.upd u3 fun x hx => (HG x hx).1).upd u4 fun x hx => (HG x hx).2
  have g4 := hm3.upd u4 (by simpa using q m (by simp [hblk]))
  exact k w4 V4 ⟨b4, c4_MISSING, d4, e4, f4, g4, H2.a1, H2.a2, H2.a3, ⟨H2.base.1, H2.base.2.1, by have := H2.base.2.2; omega⟩⟩
end
end Go.Vc.Stop
end

section
open Go Go.Vc Go.Proofs
set_option linter.unusedVariables false
set_option linter.unusedSimpArgs false
set_option autoImplicit false
namespace Go.Vc.Stop
section
variable {w : World} {R : SV → World → Prop} {N h m : Nat} {S : Hs} {B G : Sl}
theorem imin_min (a b : Int) : imin a b = min a b := by unfold imin; omega
theorem imax_max (a b : Int) : imax a b = max a b := by unfold imax; omega
/-- a row of one pair -/
theorem rowG {b e : Nat} {f : Nat × Nat} {a c : Int} {cs : List Value} (h : w.heap[b]? = some (.cells cs.toArray e f)) (hc : cs = cG.cells [(a, c)]) : Sees cG w ⟨some ⟨b, 0, none⟩, 1, 1⟩ [(a, c)] :=
  sees_row h [(a, c)] hc rfl
theorem appG {NL : Nat} {hb : List Nat} {w0 w' : World} {S' : Hs} {s x : Sl} {lt new : List (Int × Int)} {bs : List Nat} {F : Sl → World → Prop} (U : Upd hb [] w0 w') (H : Hol N w' h S' B G m) (hs : Sees cG w' s lt) (os : Own NL 2 w' s) (hx : Sees cG w' x new)
    (hNL : ∀ y ∈ hblk h B G m, y < NL) (hw0 : w0.heap.size ≤ NL) (hNL2 : NL ≤ w'.heap.size) (hbs : ∀ y ∈ s.blk, y ∉ bs) (hlen : lt.length + new.length ≤ 1000000)
    (k : ∀ r w'', Upd hb [] w0 w'' → Hol N w'' h S' B G m → Sees cG w'' r (lt ++ new) → Own NL 2 w'' r → (∀ y ∈ r.blk, y ∈ s.blk ∨ w'.heap.size ≤ y) → w'.heap.size ≤ w''.heap.size → F r w'') : Append 128 2 16 s x bs w' F := by
  refine append_own (c := cG) hs os hx hNL2 hbs (by decide) (by omega) fun r w'' hr or u hn => ?_
  have sb := os.blk
  exact k r w'' (U.step u fun y hy => .inl (by have := sb y hy; omega)) (H.upd u fun y hy hm => by have := hNL y hy; have := sb y hm; omega) hr or hn u.size
/-- the piece that is laid into a hole -/
theorem piece_len {l : List Int} {lo hi off : Int} (h1 : off ≤ lo) (h2 : lo ≤ hi) (h3 : hi ≤ off + l.length) : ((l.take (hi - off).toNat).drop (lo - off).toNat).length = (hi - lo).toNat := by
  simp; omega
theorem putB_ok {off e : Int} {l : List Int} (h0 : 0 ≤ off) (he : off + l.length = e) (hl : 0 < l.length) (hlb : Byt l) : ∀ (gs : List (Int × Int)) (b : List Int), (∀ g ∈ gs, 0 ≤ g.1 ∧ g.1 < g.2) → e.toNat ≤ b.length → Byt b → (putB off e l gs b).length = b.length ∧ Byt (putB off e l gs b)
  | [], b, _, _, hb => ⟨rfl, hb⟩
  | g :: r, b, h, h1, hb => by
    have hg := h g (by simp)
    have hr := fun x hx => h x (List.mem_cons_of_mem _ hx)
    unfold putB
    split
    · exact ⟨rfl, hb⟩
    · split
      · exact putB_ok h0 he hl hlb r b hr h1 hb
      · have pl : ((l.take (min g.2 e - off).toNat).drop (max g.1 off - off).toNat).length = (min g.2 e - max g.1 off).toNat := piece_len (by omega) (by omega) (by omega)
        have bl := blit_len (l := b) (i := (max g.1 off).toNat) (d := (l.take (min g.2 e - off).toNat).drop (max g.1 off - off).toNat) (by rw [pl]; omega)
        have := putB_ok h0 he hl hlb r _ hr (by rw [bl]; exact h1) (blit_byt hb (fun x hx => hlb x (List.mem_of_mem_take (List.mem_of_mem_drop hx))))
        rw [bl] at this
        exact this
theorem cutG_len {off e : Int} : ∀ (gs : List (Int × Int)), (cutG off e gs).length ≤ 2 * gs.length
  | [] => by simp [cutG]
  | g :: r => by
    have ih := cutG_len (off := off) (e := e) r
    unfold cutG
    split
    · simp; omega
    · split
      · simp; omega
      · simp only [List.length_append, List.length_cons]
        split <;> split <;> simp <;> omega
theorem finG_last {E : Int} {cg : List (Int × Int)} (hf : S.fin < 0) (hi : cg.length - 1 < cg.length) : finG S E false cg = if cg[cg.length - 1].2 = S.max then (if E ≤ cg[cg.length - 1].1 then cg.dropLast else cg.dropLast ++ [(cg[cg.length - 1].1, E)]) else cg := by
  unfold finG; rw [if_pos ⟨rfl, hf⟩, List.getLast?_eq_getElem?, List.getElem?_eq_getElem hi]
theorem finG_no {E : Int} {more : Bool} {cg : List (Int × Int)} (h : ¬ (more = false ∧ S.fin < 0)) : finG S E more cg = cg := by unfold finG; rw [if_neg h]
theorem finG_nil {E : Int} {more : Bool} : finG S E more [] = [] := by unfold finG; split <;> rfl
theorem set_last {α : Type} {l : List α} {x : α} (h : 0 < l.length) : l.set (l.length - 1) x = l.dropLast ++ [x] := by
  rw [List.set_eq_take_append_cons_drop, if_pos (by omega), List.dropLast_eq_take, List.drop_of_length_le (by omega)]
theorem found_eq {l : List (Int × Int × Bool)} {k : Int × Int × Bool} {b : Bool} (h : Found (seenL l) (keyS k).enc (.struct []) (.struct []) b) : b = decide (k ∈ l) := by
  rcases h with ⟨rfl, p, hp, e, _⟩ | ⟨rfl, h, _⟩
  · exact (decide_eq_true (mem_seen.1 ⟨p, hp, e⟩)).symm
  · refine (decide_eq_false fun hk => ?_).symm
    obtain ⟨p, hp, e⟩ := mem_seen.2 hk
    exact h p hp e
end
end Go.Vc.Stop
end

section
namespace Go.Vc
set_option linter.unusedVariables false
set_option linter.unusedSimpArgs false
set_option autoImplicit false
def flatG (l : List (Int × Int)) : List Int := l.flatMap fun g => [g.1, g.2]
theorem flatG_cells : ∀ (l : List (Int × Int)), cI64.cells (flatG l) = cG.cells l
  | [] => rfl
  | g :: r => by
    have ih := flatG_cells r
    simp only [Cod.cells, flatG, List.flatMap_cons] at ih ⊢
    rw [List.flatMap_append, ih]
    rfl
theorem flatG_len : ∀ (l : List (Int × Int)), (flatG l).length = 2 * l.length
  | [] => rfl
  | g :: r => by have := flatG_len r; simp only [flatG, List.flatMap_cons, List.length_append, List.length_cons, List.length_nil] at this ⊢; omega
theorem flatG_set {x : Int} : ∀ (l : List (Int × Int)) (i : Nat) (h : i < l.length), (flatG l).set (2 * i + 1) x = flatG (l.set i (l[i].1, x))
  | g :: r, 0, _ => by simp [flatG]
  | g :: r, i + 1, h => by
    have ih := flatG_set (x := x) r i (by simpa using h)
    simp only [flatG, List.flatMap_cons, List.set_cons_succ, List.getElem_cons_succ] at ih ⊢
    rw [← ih]
    show (g.1 :: g.2 :: _).set (2 * (i + 1) + 1) x = _
    rw [show 2 * (i + 1) + 1 = (2 * i + 1) + 1 + 1 by omega, List.set_cons_succ, List.set_cons_succ]
    rfl
/-- the second number of a pair is written -/
theorem setG2 {N i : Nat} {x : Int} {w : World} {s : Sl} {gs : List (Int × Int)} {bs : List Nat} {F : World → Prop} (hs : Sees cG w s gs) (o : Own N 2 w s) (hi : i < gs.length) (hbs : ∀ b ∈ s.blk, b ∉ bs)
    (k : ∀ w1, Sees cG w1 s (gs.set i (gs[i].1, x)) → Own N 2 w1 s → Upd s.blk [] w w1 → F w1) : Store w ((s.at 2 i).add 1) [.int .i64 x] bs F := by
  have hl := hs.len
  have ole := o.le
  have h1 : Sees cI64 w ⟨s.ptr, 2 * s.len, 2 * s.cap⟩ (flatG gs) := ⟨by simp [flatG_len, hl], by rw [flatG_cells]; exact hs.row⟩
  have o1 : Own N 1 w ⟨s.ptr, 2 * s.len, 2 * s.cap⟩ := ⟨by simp; omega, fun hp => by have := o.nil hp; simp [this], o.blk, fun a ha => ⟨(o.cell a ha).1, fun j hj => (o.cell a ha).2 j (by simp at hj; omega)⟩⟩
  have ea : (s.at 2 i).add 1 = (⟨s.ptr, 2 * s.len, 2 * s.cap⟩ : Sl).at 1 (2 * i + 1) := by
    simp only [Sl.at]
    rw [add_add]
    congr 1
    omega
  rw [ea]
  refine own_set (c := cI64) (x := x) h1 o1 (by decide) (by rw [flatG_len]; omega) rfl hbs fun w1 h2 o2 u => ?_
  rw [flatG_set gs i hi] at h2
  refine k w1 ⟨by simpa using hl, ?_⟩ ⟨o.le, o.nil, o2.blk, fun a ha => ⟨(o.cell a ha).1, fun j hj => (o2.cell a ha).2 j (by show j < 2 * s.cap * 1; omega)⟩⟩ u
  have := h2.row
  rwa [flatG_cells] at this
theorem subG_ptr {s : Sl} {n m : Nat} : (s.sub 2 0 n m).ptr = s.ptr := by
  simp only [Sl.sub]
  split
  · rfl
  · cases s.ptr with
    | none => rfl
    | some a => simp [add_zero]
theorem Own.subG {N n : Nat} {w : World} {s : Sl} (o : Own N 2 w s) (hn : n ≤ s.cap) : Own N 2 w (s.sub 2 0 n s.cap) := by
  have hb : (s.sub 2 0 n s.cap).blk = s.blk := by unfold Sl.blk; rw [subG_ptr]
  refine ⟨by simp [Sl.sub]; omega, fun hp => ?_, fun b hb' => o.blk b (hb ▸ hb'), fun a ha => ?_⟩
  · rw [subG_ptr] at hp
    simp [Sl.sub, o.nil hp]
  · rw [subG_ptr] at ha
    exact ⟨(o.cell a ha).1, fun i hi => (o.cell a ha).2 i (by simpa [Sl.sub] using hi)⟩
end Go.Vc
end
