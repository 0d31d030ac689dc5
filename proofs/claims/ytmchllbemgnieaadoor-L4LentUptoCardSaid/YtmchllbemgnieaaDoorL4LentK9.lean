import Derived.Test.YtmchllbemgnieaaDoorL4LentK8
import Derived.Test.YtmchllbemgnieaaDoorL4LentK2
import Derived.KernelRfl
import Derived.Test.YtmchllbemgnieaaDoorRows
import Derived.Test.YtmchllbemgnieaaDoorL4LentK6
import Derived.Test.YtmchllbemgnieaaDoorCards
import Derived.Test.YtmchllbemgnieaaDoorTie
import Derived.Deep.DeepHandedRow
import Derived.Lib.LaidTab
import Derived.Stop.LaidErr
section
open Go Go.Vc Go.Proofs
set_option linter.unusedVariables false
set_option linter.unusedSimpArgs false
set_option autoImplicit false
namespace Go.Vc.S9
/-- colours of blocks -/
def rc (c : Nat → Nat) (z k : Nat) : Nat → Nat := fun x => if x < z then c x else k
def Col (c : Nat → Nat) (k : Nat) (S : List Nat) : Prop := ∀ x ∈ S, c x = k
theorem Col.new {c : Nat → Nat} {k z : Nat} {S T : List Nat} (h : Col c k S) (hn : ∀ x ∈ T, x ∈ S ∨ z ≤ x) : Col (S9.rc c z k) k T := fun x hx => by
  unfold S9.rc
  split
  · rcases hn x hx with q | q
    · exact h x q
    · omega
  · rfl
theorem Col.off {c : Nat → Nat} {k j : Nat} {S T : List Nat} (h : Col c k S) (h' : Col c j T) (hne : k ≠ j) : ∀ x ∈ S, x ∉ T := fun x hx hm => hne ((h x hx).symm.trans (h' x hm))
/-- a book: its blocks alone -/
def BkAt (N : Nat) (w : World) (bk n : Nat) (hd : List Nat) : Prop :=
  ∃ L W ls gs hs, Bok N w bk L W ls gs hs ∧ hd = bk :: (lotB L gs ++ lotB W hs) ∧ ls.length = n ∧ ∀ l ∈ ls, Byt l ∧ l.length ≤ 2000000
section
variable {N bk n : Nat} {w w1 : World} {R : SV → World → Prop} {hd : List Nat}
theorem BkAt.lt (h : BkAt N w bk n hd) (hN : N ≤ bk) : ∀ x ∈ hd, N ≤ x ∧ x < w.heap.size := by
  obtain ⟨L, W, ls, gs, hs, hB, rfl, _⟩ := h
  intro x hx
  rcases List.mem_cons.1 hx with rfl | q
  · exact ⟨hN, hB.box.lt⟩
  · rcases List.mem_append.1 q with q | q
    · exact hB.A.lt x q
    · exact hB.B.lt x q
theorem BkAt.upd {m nn : List Nat} (h : BkAt N w bk n hd) (u : Upd m nn w w1) (hm : ∀ x ∈ hd, x ∉ m) : BkAt N w1 bk n hd := by
  obtain ⟨L, W, ls, gs, hs, hB, rfl, h1, h2⟩ := h
  exact ⟨L, W, ls, gs, hs, ⟨hB.box.upd u (hm _ (by simp)), hB.A.upd u (fun x hx => hm x (by simp [hx])), hB.B.upd u (fun x hx => hm x (by simp [hx])), hB.apart, hB.offA, hB.offB⟩, rfl, h1, h2⟩
theorem BkAt.keep {g : Sl} {l : List Int} (h : BkAt N w bk n hd) (hg : SeesB w g l) (og : Own N 1 w g) (hdis : ∀ x ∈ g.blk, x ∉ hd) (hN : N ≤ w.heap.size) (hb : Byt l) (hl : l.length ≤ 2000000) (hn : n ≤ 100000000)
    (k : ∀ hd' w1, Upd hd [] w w1 → BkAt N w1 bk (n + 1) hd' → (∀ x ∈ hd', x ∈ hd ∨ x ∈ g.blk ∨ w.heap.size ≤ x) → R (.tuple []) w1) : Ret Tryd.prog 61 [.ptr (some ⟨bk, 0, none⟩), .slice g] w R := by
  obtain ⟨L, W, ls, gs, hs, hB, rfl, h1, h2⟩ := h
  refine c61 hB hg og (fun x hx => ?_) hN (by omega) (by omega) fun L' W' c w1 ms u hms hB' nA nB => ?_
  · have := hdis x hx
    simp only [List.mem_cons, List.mem_append, not_or] at this
    exact ⟨this.2.1, this.2.2, this.1⟩
  · refine k _ w1 (u.wide (fun x hx => ?_)) ⟨L', W', _, _, _, hB', rfl, by simp [h1], fun l' hl' => ?_⟩ (fun x hx => ?_)
    · rcases hms x hx with q | q | q
      · simp [q]
      · simp [lotB_mem.2 (.inl q)]
      · simp [lotB_mem.2 (.inl q)]
    · rcases List.mem_append.1 hl' with q | q
      · exact h2 l' q
      · rw [List.mem_singleton] at q; subst q; exact ⟨hb, hl⟩
    · rcases List.mem_cons.1 hx with q | q
      · exact .inl (by simp [q])
      · rcases List.mem_append.1 q with q | q
        · rcases nA x q with r | r | r
          · exact .inl (by simp [r])
          · exact .inr (.inl r)
          · exact .inr (.inr r)
        · rcases nB x q with r | r
          · exact .inl (by simp [r])
          · exact .inr (.inr r)
theorem BkAt.untouched (h : BkAt N w bk n hd) (hn : n ≤ 100000000) (k : ∀ w1, Upd [] [] w w1 → R (.bool true) w1) : Ret Tryd.prog 63 [.ptr (some ⟨bk, 0, none⟩)] w R := by
  obtain ⟨L, W, ls, gs, hs, hB, rfl, h1, h2⟩ := h
  exact c63T hB (fun l hl => (h2 l hl).1) (by omega) k
theorem BkAt.settle (h : BkAt N w bk n hd) (hn : n ≤ 100000000) (hN : N ≤ w.heap.size) (k : ∀ w1, Upd hd [] w w1 → R (.bool true) w1) : Ret Tryd.prog 65 [.ptr (some ⟨bk, 0, none⟩)] w R := by
  obtain ⟨L, W, ls, gs, hs, hB, rfl, h1, h2⟩ := h
  refine c65T hB (by omega) (fun l hl => by have := (h2 l hl).2; omega) (fun l hl => (h2 l hl).1) hN fun w1 ms u hms => k w1 (u.wide (fun x hx => by simp [hms x hx]))
theorem BkAt.start {e : Nat} (hr : w.heap[bk]? = some (.cells (SV.cells (SV.struct [SV.slice ⟨none, 0, 0⟩, SV.slice ⟨none, 0, 0⟩])).toArray e (0, 0))) : BkAt N w bk 0 [bk] :=
  ⟨_, _, [], [], [], ⟨Bx.mk' (l := [.sl ⟨none, 0, 0⟩, .sl ⟨none, 0, 0⟩]) hr rfl, LotC.nil _ _ _, LotC.nil _ _ _, by simp [lotB, Sl.blk], by simp [lotB, Sl.blk], by simp [lotB, Sl.blk]⟩, by simp [lotB, Sl.blk], rfl, by simp⟩
theorem frm_len {l l' : List Opt} (h : frm l' = frm l) : l'.length = l.length := by
  have := congrArg List.length h
  simpa [frm] using this
theorem frm_le {l l' : List Opt} {B : Nat} (h : frm l' = frm l) (hB : ∀ o ∈ l, o.data.length ≤ B) : ∀ o ∈ l', o.data.length ≤ B := by
  intro o ho
  have : (o.kind, o.data.length) ∈ frm l' := List.mem_map.2 ⟨o, ho, rfl⟩
  rw [h] at this
  obtain ⟨p, hp, e⟩ := List.mem_map.1 this
  have := hB p hp
  simp at e
  omega
end
end Go.Vc.S9
end

section
open Go Go.Vc Go.Vc.S9 Go.Proofs
set_option maxRecDepth 100000
set_option linter.unusedVariables false
namespace Go.Vc.S9
end Go.Vc.S9
end

section
open Go Go.Vc Go.Proofs Go.ChangeShapes Go.WideShapes Go.ChangeAt Go.RowKit
set_option linter.unusedVariables false
set_option linter.unusedSimpArgs false
set_option autoImplicit false
namespace Go.Vc.S9
section
variable {w : World} {t : TcV} {so sd : Sl} {os : List (Int × Sl)}
end
section
variable {H : Type} {W : World}
end
end Go.Vc.S9
end

section
open Go Go.Vc Go.Vc.S9 Go.Proofs
set_option maxRecDepth 100000
set_option linter.unusedVariables false
namespace Go.Vc.S9
def vc16 (src_0 : Int) (src_1 : Nat → Int) (dst_0 : Int) (dst_1 : Nat → Int) (u_0 : Int) (u_1 : Int) (u_2 : Bool) (u_3 : Sl) (t_0 : Int) (t_1 : Int) (t_2
  : Int) (t_3 : Int) (t_4 : Int) (t_5 : Int) (t_6 : Int) (t_7 : Sl) (t_8 : Sl) (most : Int) (turns : Sl) (w : World) (R : SV → World → Prop) : Prop := ∀ (b
  b_1 b_2 b_3 : Nat) (w1 : World), Upd [] [b_3, b_2, b_1, b] w w1 → Ret Tryd.prog 18 [] w1 fun (r : SV) (w1_1 : World) => ∃ (b_4 : Bool), r = SV.bool b_4
  ∧ Keeps [b, b_1, b_2, b_3] w1 w1_1 ∧ Br (!b_4) (R (SV.bool false) w1_1) (Ret Tryd.prog 37 [SV.struct [SV.int IntKind.i64 u_0, SV.int IntKind.i64 u_1, SV.bool
  u_2, SV.slice u_3]] w1_1 fun (r : SV) (w1 : World) => ∃ (n : Int), ∃ (n_1 : Int), ∃ (b_5 : Bool), ∃ (s : Sl), r = SV.struct [SV.int IntKind.i64 n, SV.int
  IntKind.i64 n_1, SV.bool b_5, SV.slice s] ∧ Keeps [b, b_1, b_2, b_3] w1_1 w1 ∧ ∀ (b_6 : Nat) (w1_2 : World), Upd [] [b_6] w1 w1_2 → Ret Tryd.prog 38 [SV.struct
  [SV.int IntKind.i64 t_0, SV.int IntKind.i64 t_1, SV.int IntKind.i64 t_2, SV.int IntKind.i64 t_3, SV.int IntKind.i64 t_4, SV.int IntKind.i64 t_5, SV.int
  IntKind.i64 t_6, SV.slice t_7, SV.slice t_8]] w1_2 fun (r : SV) (w1 : World) => ∃ (n_2 : Int), ∃ (n_3 : Int), ∃ (n_4 : Int), ∃ (n_5 : Int), ∃ (n_6 : Int),
  ∃ (n_7 : Int), ∃ (n_8 : Int), ∃ (s_1 : Sl), ∃ (s_2 : Sl), r = SV.struct [SV.int IntKind.i64 n_2, SV.int IntKind.i64 n_3, SV.int IntKind.i64 n_4, SV.int
  IntKind.i64 n_5, SV.int IntKind.i64 n_6, SV.int IntKind.i64 n_7, SV.int IntKind.i64 n_8, SV.slice s_1, SV.slice s_2] ∧ Keeps [b, b_1, b_2, b_3, b_6] w1_2
  w1 ∧ ∀ (b_7 b_8 b_9 b_10 b_11 b_12 : Nat) (w1_3 : World), Upd [] [b_12, b_11, b_10, b_9, b_8, b_7] w1 w1_3 → (World.heap w1_3)[b_8]? = some (Obj.cells { toList := SV.cells (SV.struct [SV.slice { ptr := none, len := 0, cap := 0 }, SV.int IntKind.i64 0]) }
  76) → Off b_8 [b, b_1, b_2, b_3, b_6, b_7, b_9, b_10, b_11, b_12] → (World.heap w1_3)[b_9]? = some (Obj.cells { toList := SV.cells (SV.struct [SV.slice { ptr := none, len := 0, cap := 0 }, SV.int IntKind.i64 0]) }
  76) → Off b_9 [b, b_1, b_2, b_3, b_6, b_7, b_10, b_11, b_12] → (World.heap w1_3)[b_10]? = some (Obj.cells { toList := SV.cells (SV.struct [SV.slice { ptr := none, len := 0, cap := 0 }, SV.int IntKind.i64 0, SV.slice { ptr := none, len := 0, cap := 0 }]) }
  96) → Off b_10 [b, b_1, b_2, b_3, b_6, b_7, b_11, b_12] → (World.heap w1_3)[b_11]? = some (Obj.cells { toList := SV.cells (SV.struct [SV.slice { ptr := none, len := 0, cap := 0 }, SV.slice { ptr := none, len := 0, cap := 0 }]) }
  99) → Off b_11 [b, b_1, b_2, b_3, b_6, b_7, b_12] → (World.heap w1_3)[b_12]? = some (Obj.cells { toList := SV.cells (SV.struct [SV.slice { ptr := none, len := 0, cap := 0 }, SV.slice { ptr := none, len := 0, cap := 0 }]) }
  80) → Off b_12 [b, b_1, b_2, b_3, b_6, b_7] → ∃ (I : Int → World → Prop), ∃ (M : Int → World → Nat), I 0 w1_3 ∧ ∀ (n_9 : Int) (w1 : World), I n_9 w1 → ∀
  (J : World → Prop), (∀ (w1_4 : World), (∀ (J : World → Prop), (∀ (w1_5 : World), some (SV.box b 27 (SV.struct [SV.int IntKind.i64 src_0, SV.arr IntKind.u8
  16 src_1])) = some (SV.box b 27 (SV.struct [SV.int IntKind.i64 src_0, SV.arr IntKind.u8 16 src_1])) ∧ some (SV.box b_1 27 (SV.struct [SV.int IntKind.i64
  dst_0, SV.arr IntKind.u8 16 dst_1])) = some (SV.box b_1 27 (SV.struct [SV.int IntKind.i64 dst_0, SV.arr IntKind.u8 16 dst_1])) ∧ some (SV.box b_2 30 (SV.struct
  [SV.int IntKind.i64 u_0, SV.int IntKind.i64 u_1, SV.bool u_2, SV.slice u_3])) = some (SV.box b_2 30 (SV.struct [SV.int IntKind.i64 u_0, SV.int IntKind.i64
  u_1, SV.bool u_2, SV.slice u_3])) ∧ some (SV.box b_3 45 (SV.struct [SV.int IntKind.i64 t_0, SV.int IntKind.i64 t_1, SV.int IntKind.i64 t_2, SV.int IntKind.i64
  t_3, SV.int IntKind.i64 t_4, SV.int IntKind.i64 t_5, SV.int IntKind.i64 t_6, SV.slice t_7, SV.slice t_8])) = some (SV.box b_3 45 (SV.struct [SV.int IntKind.i64
  t_0, SV.int IntKind.i64 t_1, SV.int IntKind.i64 t_2, SV.int IntKind.i64 t_3, SV.int IntKind.i64 t_4, SV.int IntKind.i64 t_5, SV.int IntKind.i64 t_6, SV.slice
  t_7, SV.slice t_8])) ∧ some (SV.box b_6 30 (SV.struct [SV.int IntKind.i64 n, SV.int IntKind.i64 n_1, SV.bool b_5, SV.slice s])) = some (SV.box b_6 30 (SV.struct
  [SV.int IntKind.i64 n, SV.int IntKind.i64 n_1, SV.bool b_5, SV.slice s])) ∧ some (SV.box b_7 45 (SV.struct [SV.int IntKind.i64 n_2, SV.int IntKind.i64 n_3,
  SV.int IntKind.i64 n_4, SV.int IntKind.i64 n_5, SV.int IntKind.i64 n_6, SV.int IntKind.i64 n_7, SV.int IntKind.i64 n_8, SV.slice s_1, SV.slice s_2])) =
  some (SV.box b_7 45 (SV.struct [SV.int IntKind.i64 n_2, SV.int IntKind.i64 n_3, SV.int IntKind.i64 n_4, SV.int IntKind.i64 n_5, SV.int IntKind.i64 n_6,
  SV.int IntKind.i64 n_7, SV.int IntKind.i64 n_8, SV.slice s_1, SV.slice s_2])) ∧ I (wr IntKind.i64 (n_9 + 1)) w1_5 ∧ M (wr IntKind.i64 (n_9 + 1)) w1_5 <
  M n_9 w1 → J w1_5) → ∀ (b_13 : Nat) (w1 : World), Upd [] [b_13] w1_4 w1 → Ret Tryd.prog 43 [SV.ptr (some { block := b_8, off := 0 }), SV.slice s] w1 fun
  (r : SV) (w1_5 : World) => ∃ (s_3 : Sl), r = SV.slice s_3 ∧ Keeps [b, b_1, b_2, b_3, b_6, b_7, b_13] w1 w1_5 ∧ ∀ (b_14 : Nat) (w1 : World), Upd [b_13] [b_14]
  w1_5 w1 → Ret Tryd.prog 43 [SV.ptr (some { block := b_9, off := 0 }), SV.slice s_2] w1 fun (r : SV) (w1_6 : World) => ∃ (s_4 : Sl), r = SV.slice s_4 ∧ Keeps
  [b, b_1, b_2, b_3, b_6, b_7, b_13, b_14] w1 w1_6 ∧ ∀ (w1 : World), Upd [b_14] [] w1_6 w1 → Ret Tryd.prog 53 [SV.ptr (some { block := b_10, off := 0 }),
  SV.slice s_1] w1 fun (r : SV) (w1_7 : World) => ∃ (s_5 : Sl), r = SV.slice s_5 ∧ Keeps [b, b_1, b_2, b_3, b_6, b_7, b_13, b_14] w1 w1_7 ∧ ∃ (I : Int → World
  → Prop), ∃ (M : Int → World → Nat), (∀ (w1 : World), Upd [b_14] [] w1_7 w1 → I 0 w1) ∧ ∀ (n_10 : Int) (w1 : World), I n_10 w1 → Br (decide (n_10 < 2)) (∀
  (J : World → Prop), (∀ (w1_8 : World), some (SV.box b 27 (SV.struct [SV.int IntKind.i64 src_0, SV.arr IntKind.u8 16 src_1])) = some (SV.box b 27 (SV.struct
  [SV.int IntKind.i64 src_0, SV.arr IntKind.u8 16 src_1])) ∧ some (SV.box b_1 27 (SV.struct [SV.int IntKind.i64 dst_0, SV.arr IntKind.u8 16 dst_1])) = some
  (SV.box b_1 27 (SV.struct [SV.int IntKind.i64 dst_0, SV.arr IntKind.u8 16 dst_1])) ∧ some (SV.box b_2 30 (SV.struct [SV.int IntKind.i64 u_0, SV.int IntKind.i64
  u_1, SV.bool u_2, SV.slice u_3])) = some (SV.box b_2 30 (SV.struct [SV.int IntKind.i64 u_0, SV.int IntKind.i64 u_1, SV.bool u_2, SV.slice u_3])) ∧ some
  (SV.box b_3 45 (SV.struct [SV.int IntKind.i64 t_0, SV.int IntKind.i64 t_1, SV.int IntKind.i64 t_2, SV.int IntKind.i64 t_3, SV.int IntKind.i64 t_4, SV.int
  IntKind.i64 t_5, SV.int IntKind.i64 t_6, SV.slice t_7, SV.slice t_8])) = some (SV.box b_3 45 (SV.struct [SV.int IntKind.i64 t_0, SV.int IntKind.i64 t_1,
  SV.int IntKind.i64 t_2, SV.int IntKind.i64 t_3, SV.int IntKind.i64 t_4, SV.int IntKind.i64 t_5, SV.int IntKind.i64 t_6, SV.slice t_7, SV.slice t_8])) ∧
  some (SV.box b_6 30 (SV.struct [SV.int IntKind.i64 n, SV.int IntKind.i64 n_1, SV.bool b_5, SV.slice s])) = some (SV.box b_6 30 (SV.struct [SV.int IntKind.i64
  n, SV.int IntKind.i64 n_1, SV.bool b_5, SV.slice s])) ∧ some (SV.box b_7 45 (SV.struct [SV.int IntKind.i64 n_2, SV.int IntKind.i64 n_3, SV.int IntKind.i64
  n_4, SV.int IntKind.i64 n_5, SV.int IntKind.i64 n_6, SV.int IntKind.i64 n_7, SV.int IntKind.i64 n_8, SV.slice s_1, SV.slice s_2])) = some (SV.box b_7 45
  (SV.struct [SV.int IntKind.i64 n_2, SV.int IntKind.i64 n_3, SV.int IntKind.i64 n_4, SV.int IntKind.i64 n_5, SV.int IntKind.i64 n_6, SV.int IntKind.i64 n_7,
  SV.int IntKind.i64 n_8, SV.slice s_1, SV.slice s_2])) ∧ some (SV.box b_13 30 (SV.struct [SV.int IntKind.i64 n, SV.int IntKind.i64 n_1, SV.bool b_5, SV.slice
  s_3])) = some (SV.box b_13 30 (SV.struct [SV.int IntKind.i64 n, SV.int IntKind.i64 n_1, SV.bool b_5, SV.slice s_3])) ∧ some (SV.box b_14 45 (SV.struct [SV.int
  IntKind.i64 n_2, SV.int IntKind.i64 n_3, SV.int IntKind.i64 n_4, SV.int IntKind.i64 n_5, SV.int IntKind.i64 n_6, SV.int IntKind.i64 n_7, SV.int IntKind.i64
  n_8, SV.slice s_5, SV.slice s_4])) = some (SV.box b_14 45 (SV.struct [SV.int IntKind.i64 n_2, SV.int IntKind.i64 n_3, SV.int IntKind.i64 n_4, SV.int IntKind.i64
  n_5, SV.int IntKind.i64 n_6, SV.int IntKind.i64 n_7, SV.int IntKind.i64 n_8, SV.slice s_5, SV.slice s_4])) ∧ I (wr IntKind.i64 (n_10 + 1)) w1_8 ∧ M (wr
  IntKind.i64 (n_10 + 1)) w1_8 < M n_10 w1 → J w1_8) → Ret Tryd.prog 19 [SV.struct [SV.int IntKind.i64 src_0, SV.arr IntKind.u8 16 src_1], SV.struct [SV.int
  IntKind.i64 dst_0, SV.arr IntKind.u8 16 dst_1], SV.struct [SV.int IntKind.i64 n, SV.int IntKind.i64 n_1, SV.bool b_5, SV.slice s_3]] w1 fun (r : SV) (w1_8
  : World) => ∃ (s_6 : Sl), ∃ (n_11 : Int), r = SV.tuple [SV.slice s_6, SV.int IntKind.i64 n_11] ∧ Keeps [b, b_1, b_2, b_3, b_6, b_7, b_13, b_14] w1 w1_8
  ∧ Ret Tryd.prog 26 [SV.struct [SV.int IntKind.i64 src_0, SV.arr IntKind.u8 16 src_1], SV.struct [SV.int IntKind.i64 dst_0, SV.arr IntKind.u8 16 dst_1],
  SV.struct [SV.int IntKind.i64 n_2, SV.int IntKind.i64 n_3, SV.int IntKind.i64 n_4, SV.int IntKind.i64 n_5, SV.int IntKind.i64 n_6, SV.int IntKind.i64 n_7,
  SV.int IntKind.i64 n_8, SV.slice s_5, SV.slice s_4]] w1_8 fun (r : SV) (w1 : World) => ∃ (s_7 : Sl), ∃ (n_12 : Int), r = SV.tuple [SV.slice s_7, SV.int
  IntKind.i64 n_12] ∧ Keeps [b, b_1, b_2, b_3, b_6, b_7, b_13, b_14] w1_8 w1 ∧ Ret Tryd.prog 39 [SV.slice s_5] w1 fun (r : SV) (w1_9 : World) => ∃ (s_8 :
  Sl), ∃ (n_13 : Int), r = SV.tuple [SV.slice s_8, SV.int IntKind.i64 n_13] ∧ Keeps [b, b_1, b_2, b_3, b_6, b_7, b_13, b_14] w1 w1_9 ∧ Ret Tryd.prog 35 [SV.struct
  [SV.int IntKind.i64 n_2, SV.int IntKind.i64 n_3, SV.int IntKind.i64 n_4, SV.int IntKind.i64 n_5, SV.int IntKind.i64 n_6, SV.int IntKind.i64 n_7, SV.int
  IntKind.i64 n_8, SV.slice s_5, SV.slice s_4], SV.int IntKind.i64 most] w1_9 fun (r : SV) (w1 : World) => ∃ (n_14 : Int), ∃ (n_15 : Int), ∃ (n_16 : Int),
  ∃ (n_17 : Int), ∃ (n_18 : Int), ∃ (n_19 : Int), ∃ (n_20 : Int), ∃ (s_9 : Sl), ∃ (s_10 : Sl), r = SV.struct [SV.int IntKind.i64 n_14, SV.int IntKind.i64
  n_15, SV.int IntKind.i64 n_16, SV.int IntKind.i64 n_17, SV.int IntKind.i64 n_18, SV.int IntKind.i64 n_19, SV.int IntKind.i64 n_20, SV.slice s_9, SV.slice
  s_10] ∧ Keeps [b, b_1, b_2, b_3, b_6, b_7, b_13, b_14] w1_9 w1 ∧ ∀ (b_15 : Nat) (w1_10 : World), Upd [] [b_15] w1 w1_10 → Ret Tryd.prog 36 [SV.struct [SV.int
  IntKind.i64 n_2, SV.int IntKind.i64 n_3, SV.int IntKind.i64 n_4, SV.int IntKind.i64 n_5, SV.int IntKind.i64 n_6, SV.int IntKind.i64 n_7, SV.int IntKind.i64
  n_8, SV.slice s_5, SV.slice s_4]] w1_10 fun (r : SV) (w1 : World) => ∃ (n_21 : Int), ∃ (b_16 : Bool), r = SV.tuple [SV.int IntKind.i64 n_21, SV.bool b_16]
  ∧ Keeps [b, b_1, b_2, b_3, b_6, b_7, b_13, b_14, b_15] w1_10 w1 ∧ ∀ (w1_11 : World), Upd [] [] w1 w1_11 → Ret Tryd.prog 37 [SV.struct [SV.int IntKind.i64
  n, SV.int IntKind.i64 n_1, SV.bool b_5, SV.slice s]] w1_11 fun (r : SV) (w1_12 : World) => ∃ (n_22 : Int), ∃ (n_23 : Int), ∃ (b_17 : Bool), ∃ (s_11 : Sl),
  r = SV.struct [SV.int IntKind.i64 n_22, SV.int IntKind.i64 n_23, SV.bool b_17, SV.slice s_11] ∧ Keeps [b, b_1, b_2, b_3, b_6, b_7, b_13, b_14, b_15] w1_11
  w1_12 ∧ Upd [] [] w1 w1_12 ∧ Ret Tryd.prog 54 [SV.struct [SV.int IntKind.i64 src_0, SV.arr IntKind.u8 16 src_1], SV.struct [SV.int IntKind.i64 dst_0, SV.arr
  IntKind.u8 16 dst_1], SV.struct [SV.int IntKind.i64 n_22, SV.int IntKind.i64 n_23, SV.bool b_17, SV.slice s_11]] w1_12 fun (r : SV) (w1 : World) => ∃ (s_12
  : Sl), ∃ (n_24 : Int), r = SV.tuple [SV.slice s_12, SV.int IntKind.i64 n_24] ∧ Keeps [b, b_1, b_2, b_3, b_6, b_7, b_13, b_14, b_15] w1_12 w1 ∧ ∀ (w1_13
  : World), Upd [] [] w1 w1_13 → Ret Tryd.prog 38 [SV.struct [SV.int IntKind.i64 n_2, SV.int IntKind.i64 n_3, SV.int IntKind.i64 n_4, SV.int IntKind.i64 n_5,
  SV.int IntKind.i64 n_6, SV.int IntKind.i64 n_7, SV.int IntKind.i64 n_8, SV.slice s_1, SV.slice s_2]] w1_13 fun (r : SV) (w1_14 : World) => ∃ (n_25 : Int),
  ∃ (n_26 : Int), ∃ (n_27 : Int), ∃ (n_28 : Int), ∃ (n_29 : Int), ∃ (n_30 : Int), ∃ (n_31 : Int), ∃ (s_13 : Sl), ∃ (s_14 : Sl), r = SV.struct [SV.int IntKind.i64
  n_25, SV.int IntKind.i64 n_26, SV.int IntKind.i64 n_27, SV.int IntKind.i64 n_28, SV.int IntKind.i64 n_29, SV.int IntKind.i64 n_30, SV.int IntKind.i64 n_31,
  SV.slice s_13, SV.slice s_14] ∧ Keeps [b, b_1, b_2, b_3, b_6, b_7, b_13, b_14, b_15] w1_13 w1_14 ∧ Upd [] [] w1 w1_14 ∧ Ret Tryd.prog 55 [SV.struct [SV.int
  IntKind.i64 src_0, SV.arr IntKind.u8 16 src_1], SV.struct [SV.int IntKind.i64 dst_0, SV.arr IntKind.u8 16 dst_1], SV.struct [SV.int IntKind.i64 n_25, SV.int
  IntKind.i64 n_26, SV.int IntKind.i64 n_27, SV.int IntKind.i64 n_28, SV.int IntKind.i64 n_29, SV.int IntKind.i64 n_30, SV.int IntKind.i64 n_31, SV.slice
  s_13, SV.slice s_14]] w1_14 fun (r : SV) (w1 : World) => ∃ (s_15 : Sl), ∃ (n_32 : Int), r = SV.tuple [SV.slice s_15, SV.int IntKind.i64 n_32] ∧ Keeps [b,
  b_1, b_2, b_3, b_6, b_7, b_13, b_14, b_15] w1_14 w1 ∧ Ret Tryd.prog 38 [SV.struct [SV.int IntKind.i64 n_2, SV.int IntKind.i64 n_3, SV.int IntKind.i64 n_4,
  SV.int IntKind.i64 n_5, SV.int IntKind.i64 n_6, SV.int IntKind.i64 n_7, SV.int IntKind.i64 n_8, SV.slice s_1, SV.slice s_2]] w1 fun (r : SV) (w1_15 : World)
  => ∃ (n_33 : Int), ∃ (n_34 : Int), ∃ (n_35 : Int), ∃ (n_36 : Int), ∃ (n_37 : Int), ∃ (n_38 : Int), ∃ (n_39 : Int), ∃ (s_16 : Sl), ∃ (s_17 : Sl), r = SV.struct
  [SV.int IntKind.i64 n_33, SV.int IntKind.i64 n_34, SV.int IntKind.i64 n_35, SV.int IntKind.i64 n_36, SV.int IntKind.i64 n_37, SV.int IntKind.i64 n_38, SV.int
  IntKind.i64 n_39, SV.slice s_16, SV.slice s_17] ∧ Keeps [b, b_1, b_2, b_3, b_6, b_7, b_13, b_14, b_15] w1 w1_15 ∧ Ret Tryd.prog 56 [SV.slice s_16] w1_15
  fun (r : SV) (w1 : World) => ∃ (s_18 : Sl), ∃ (n_40 : Int), r = SV.tuple [SV.slice s_18, SV.int IntKind.i64 n_40] ∧ Keeps [b, b_1, b_2, b_3, b_6, b_7, b_13,
  b_14, b_15] w1_15 w1 ∧ Ret Tryd.prog 38 [SV.struct [SV.int IntKind.i64 n_2, SV.int IntKind.i64 n_3, SV.int IntKind.i64 n_4, SV.int IntKind.i64 n_5, SV.int
  IntKind.i64 n_6, SV.int IntKind.i64 n_7, SV.int IntKind.i64 n_8, SV.slice s_1, SV.slice s_2]] w1 fun (r : SV) (w1_16 : World) => ∃ (n_41 : Int), ∃ (n_42
  : Int), ∃ (n_43 : Int), ∃ (n_44 : Int), ∃ (n_45 : Int), ∃ (n_46 : Int), ∃ (n_47 : Int), ∃ (s_19 : Sl), ∃ (s_20 : Sl), r = SV.struct [SV.int IntKind.i64
  n_41, SV.int IntKind.i64 n_42, SV.int IntKind.i64 n_43, SV.int IntKind.i64 n_44, SV.int IntKind.i64 n_45, SV.int IntKind.i64 n_46, SV.int IntKind.i64 n_47,
  SV.slice s_19, SV.slice s_20] ∧ Keeps [b, b_1, b_2, b_3, b_6, b_7, b_13, b_14, b_15] w1 w1_16 ∧ Ret Tryd.prog 57 [SV.struct [SV.int IntKind.i64 n_41, SV.int
  IntKind.i64 n_42, SV.int IntKind.i64 n_43, SV.int IntKind.i64 n_44, SV.int IntKind.i64 n_45, SV.int IntKind.i64 n_46, SV.int IntKind.i64 n_47, SV.slice
  s_19, SV.slice s_20], SV.int IntKind.i64 most] w1_16 fun (r : SV) (w1 : World) => ∃ (n_48 : Int), ∃ (n_49 : Int), ∃ (n_50 : Int), ∃ (n_51 : Int), ∃ (n_52
  : Int), ∃ (n_53 : Int), ∃ (n_54 : Int), ∃ (s_21 : Sl), ∃ (s_22 : Sl), r = SV.struct [SV.int IntKind.i64 n_48, SV.int IntKind.i64 n_49, SV.int IntKind.i64
  n_50, SV.int IntKind.i64 n_51, SV.int IntKind.i64 n_52, SV.int IntKind.i64 n_53, SV.int IntKind.i64 n_54, SV.slice s_21, SV.slice s_22] ∧ Keeps [b, b_1,
  b_2, b_3, b_6, b_7, b_13, b_14, b_15] w1_16 w1 ∧ ∀ (b_18 : Nat) (w1_17 : World), Upd [] [b_18] w1 w1_17 → Ret Tryd.prog 58 [SV.struct [SV.int IntKind.i64
  n_2, SV.int IntKind.i64 n_3, SV.int IntKind.i64 n_4, SV.int IntKind.i64 n_5, SV.int IntKind.i64 n_6, SV.int IntKind.i64 n_7, SV.int IntKind.i64 n_8, SV.slice
  s_1, SV.slice s_2]] w1_17 fun (r : SV) (w1 : World) => ∃ (n_55 : Int), ∃ (b_19 : Bool), r = SV.tuple [SV.int IntKind.i64 n_55, SV.bool b_19] ∧ Keeps [b,
  b_1, b_2, b_3, b_6, b_7, b_13, b_14, b_15, b_18] w1_17 w1 ∧ ∀ (J_1 : World → Prop), (∀ (w1 : World), (∀ (J_2 : World → Prop), (∀ (w1 : World), (Ret Tryd.prog
  61 [SV.ptr (some { block := b_11, off := 0 }), SV.slice s_6] w1 fun (r : SV) (w1_18 : World) => r = SV.tuple [] ∧ Keeps [b, b_1, b_2, b_3, b_6, b_7, b_13,
  b_14, b_15, b_18] w1 w1_18 ∧ Ret Tryd.prog 61 [SV.ptr (some { block := b_11, off := 0 }), SV.slice s_7] w1_18 fun (r : SV) (w1 : World) => r = SV.tuple
  [] ∧ Keeps [b, b_1, b_2, b_3, b_6, b_7, b_13, b_14, b_15, b_18] w1_18 w1 ∧ Ret Tryd.prog 61 [SV.ptr (some { block := b_11, off := 0 }), SV.slice s_8] w1
  fun (r : SV) (w1_19 : World) => r = SV.tuple [] ∧ Keeps [b, b_1, b_2, b_3, b_6, b_7, b_13, b_14, b_15, b_18] w1 w1_19 ∧ ∃ (I : Int → World → Prop), ∃ (M
  : Int → World → Nat), I 0 w1_19 ∧ ∀ (n_56 : Int) (w1 : World), I n_56 w1 → Br (decide (n_56 < (↑s_9.2 : Int))) (Need (decide (0 ≤ n_56) && decide (n_56
  < (↑s_9.2 : Int)) && Option.isSome s_9.1) (∃ (s_23 : Sl), World.cell? w1 (Addr.add (Sl.at s_9 2 (Int.toNat n_56)) 1) = some (Sl.val s_23) ∧ Ret Tryd.prog
  61 [SV.ptr (some { block := b_11, off := 0 }), SV.slice s_23] w1 fun (r : SV) (w1_20 : World) => r = SV.tuple [] ∧ Keeps [b, b_1, b_2, b_3, b_6, b_7, b_13,
  b_14, b_15, b_18] w1 w1_20 ∧ some (SV.box b 27 (SV.struct [SV.int IntKind.i64 src_0, SV.arr IntKind.u8 16 src_1])) = some (SV.box b 27 (SV.struct [SV.int
  IntKind.i64 src_0, SV.arr IntKind.u8 16 src_1])) ∧ some (SV.box b_1 27 (SV.struct [SV.int IntKind.i64 dst_0, SV.arr IntKind.u8 16 dst_1])) = some (SV.box
  b_1 27 (SV.struct [SV.int IntKind.i64 dst_0, SV.arr IntKind.u8 16 dst_1])) ∧ some (SV.box b_2 30 (SV.struct [SV.int IntKind.i64 u_0, SV.int IntKind.i64
  u_1, SV.bool u_2, SV.slice u_3])) = some (SV.box b_2 30 (SV.struct [SV.int IntKind.i64 u_0, SV.int IntKind.i64 u_1, SV.bool u_2, SV.slice u_3])) ∧ some
  (SV.box b_3 45 (SV.struct [SV.int IntKind.i64 t_0, SV.int IntKind.i64 t_1, SV.int IntKind.i64 t_2, SV.int IntKind.i64 t_3, SV.int IntKind.i64 t_4, SV.int
  IntKind.i64 t_5, SV.int IntKind.i64 t_6, SV.slice t_7, SV.slice t_8])) = some (SV.box b_3 45 (SV.struct [SV.int IntKind.i64 t_0, SV.int IntKind.i64 t_1,
  SV.int IntKind.i64 t_2, SV.int IntKind.i64 t_3, SV.int IntKind.i64 t_4, SV.int IntKind.i64 t_5, SV.int IntKind.i64 t_6, SV.slice t_7, SV.slice t_8])) ∧
  some (SV.box b_6 30 (SV.struct [SV.int IntKind.i64 n, SV.int IntKind.i64 n_1, SV.bool b_5, SV.slice s])) = some (SV.box b_6 30 (SV.struct [SV.int IntKind.i64
  n, SV.int IntKind.i64 n_1, SV.bool b_5, SV.slice s])) ∧ some (SV.box b_7 45 (SV.struct [SV.int IntKind.i64 n_2, SV.int IntKind.i64 n_3, SV.int IntKind.i64
  n_4, SV.int IntKind.i64 n_5, SV.int IntKind.i64 n_6, SV.int IntKind.i64 n_7, SV.int IntKind.i64 n_8, SV.slice s_1, SV.slice s_2])) = some (SV.box b_7 45
  (SV.struct [SV.int IntKind.i64 n_2, SV.int IntKind.i64 n_3, SV.int IntKind.i64 n_4, SV.int IntKind.i64 n_5, SV.int IntKind.i64 n_6, SV.int IntKind.i64 n_7,
  SV.int IntKind.i64 n_8, SV.slice s_1, SV.slice s_2])) ∧ some (SV.box b_13 30 (SV.struct [SV.int IntKind.i64 n, SV.int IntKind.i64 n_1, SV.bool b_5, SV.slice
  s_3])) = some (SV.box b_13 30 (SV.struct [SV.int IntKind.i64 n, SV.int IntKind.i64 n_1, SV.bool b_5, SV.slice s_3])) ∧ some (SV.box b_14 45 (SV.struct [SV.int
  IntKind.i64 n_2, SV.int IntKind.i64 n_3, SV.int IntKind.i64 n_4, SV.int IntKind.i64 n_5, SV.int IntKind.i64 n_6, SV.int IntKind.i64 n_7, SV.int IntKind.i64
  n_8, SV.slice s_5, SV.slice s_4])) = some (SV.box b_14 45 (SV.struct [SV.int IntKind.i64 n_2, SV.int IntKind.i64 n_3, SV.int IntKind.i64 n_4, SV.int IntKind.i64
  n_5, SV.int IntKind.i64 n_6, SV.int IntKind.i64 n_7, SV.int IntKind.i64 n_8, SV.slice s_5, SV.slice s_4])) ∧ some (SV.box b_15 45 (SV.struct [SV.int IntKind.i64
  n_14, SV.int IntKind.i64 n_15, SV.int IntKind.i64 n_16, SV.int IntKind.i64 n_17, SV.int IntKind.i64 n_18, SV.int IntKind.i64 n_19, SV.int IntKind.i64 n_20,
  SV.slice s_9, SV.slice s_10])) = some (SV.box b_15 45 (SV.struct [SV.int IntKind.i64 n_14, SV.int IntKind.i64 n_15, SV.int IntKind.i64 n_16, SV.int IntKind.i64
  n_17, SV.int IntKind.i64 n_18, SV.int IntKind.i64 n_19, SV.int IntKind.i64 n_20, SV.slice s_9, SV.slice s_10])) ∧ some (SV.box b_18 45 (SV.struct [SV.int
  IntKind.i64 n_48, SV.int IntKind.i64 n_49, SV.int IntKind.i64 n_50, SV.int IntKind.i64 n_51, SV.int IntKind.i64 n_52, SV.int IntKind.i64 n_53, SV.int IntKind.i64
  n_54, SV.slice s_21, SV.slice s_22])) = some (SV.box b_18 45 (SV.struct [SV.int IntKind.i64 n_48, SV.int IntKind.i64 n_49, SV.int IntKind.i64 n_50, SV.int
  IntKind.i64 n_51, SV.int IntKind.i64 n_52, SV.int IntKind.i64 n_53, SV.int IntKind.i64 n_54, SV.slice s_21, SV.slice s_22])) ∧ I (wr IntKind.i64 (n_56 +
  1)) w1_20 ∧ M (wr IntKind.i64 (n_56 + 1)) w1_20 < M n_56 w1)) (Ret Tryd.prog 49 [SV.ptr (some { block := b_12, off := 0 }), SV.slice s_9] w1 fun (r : SV)
  (w1_20 : World) => r = SV.tuple [] ∧ Keeps [b, b_1, b_2, b_3, b_6, b_7, b_13, b_14, b_15, b_18] w1 w1_20 ∧ Ret Tryd.prog 48 [SV.ptr (some { block := b_8, off := 0 }),
  SV.slice s] w1_20 fun (r : SV) (w1 : World) => ∃ (b_20 : Bool), r = SV.bool b_20 ∧ Keeps [b, b_1, b_2, b_3, b_6, b_7, b_13, b_14, b_15, b_18] w1_20 w1 ∧
  Br (!b_20) (R (SV.bool false) w1) (Ret Tryd.prog 48 [SV.ptr (some { block := b_9, off := 0 }), SV.slice s_2] w1 fun (r : SV) (w1_21 : World) => ∃ (b_21
  : Bool), r = SV.bool b_21 ∧ Keeps [b, b_1, b_2, b_3, b_6, b_7, b_13, b_14, b_15, b_18] w1 w1_21 ∧ Br (!b_21) (R (SV.bool false) w1_21) (Ret Tryd.prog 62
  [SV.ptr (some { block := b_10, off := 0 }), SV.slice s_1] w1_21 fun (r : SV) (w1 : World) => ∃ (b_22 : Bool), r = SV.bool b_22 ∧ Keeps [b, b_1, b_2, b_3,
  b_6, b_7, b_13, b_14, b_15, b_18] w1_21 w1 ∧ Br (!b_22) (R (SV.bool false) w1) (Ret Tryd.prog 63 [SV.ptr (some { block := b_11, off := 0 })] w1 fun (r :
  SV) (w1_22 : World) => ∃ (b_23 : Bool), r = SV.bool b_23 ∧ Keeps [b, b_1, b_2, b_3, b_6, b_7, b_13, b_14, b_15, b_18] w1 w1_22 ∧ Br (!b_23) (R (SV.bool
  false) w1_22) (Ret Tryd.prog 51 [SV.ptr (some { block := b_12, off := 0 })] w1_22 fun (r : SV) (w1 : World) => ∃ (b_24 : Bool), r = SV.bool b_24 ∧ Keeps
  [b, b_1, b_2, b_3, b_6, b_7, b_13, b_14, b_15, b_18] w1_22 w1 ∧ Br (!b_24) (R (SV.bool false) w1) (some (SV.box b 27 (SV.struct [SV.int IntKind.i64 src_0,
  SV.arr IntKind.u8 16 src_1])) = some (SV.box b 27 (SV.struct [SV.int IntKind.i64 src_0, SV.arr IntKind.u8 16 src_1])) ∧ some (SV.box b_1 27 (SV.struct [SV.int
  IntKind.i64 dst_0, SV.arr IntKind.u8 16 dst_1])) = some (SV.box b_1 27 (SV.struct [SV.int IntKind.i64 dst_0, SV.arr IntKind.u8 16 dst_1])) ∧ some (SV.box
  b_2 30 (SV.struct [SV.int IntKind.i64 u_0, SV.int IntKind.i64 u_1, SV.bool u_2, SV.slice u_3])) = some (SV.box b_2 30 (SV.struct [SV.int IntKind.i64 u_0,
  SV.int IntKind.i64 u_1, SV.bool u_2, SV.slice u_3])) ∧ some (SV.box b_3 45 (SV.struct [SV.int IntKind.i64 t_0, SV.int IntKind.i64 t_1, SV.int IntKind.i64
  t_2, SV.int IntKind.i64 t_3, SV.int IntKind.i64 t_4, SV.int IntKind.i64 t_5, SV.int IntKind.i64 t_6, SV.slice t_7, SV.slice t_8])) = some (SV.box b_3 45
  (SV.struct [SV.int IntKind.i64 t_0, SV.int IntKind.i64 t_1, SV.int IntKind.i64 t_2, SV.int IntKind.i64 t_3, SV.int IntKind.i64 t_4, SV.int IntKind.i64 t_5,
  SV.int IntKind.i64 t_6, SV.slice t_7, SV.slice t_8])) ∧ some (SV.box b_6 30 (SV.struct [SV.int IntKind.i64 n, SV.int IntKind.i64 n_1, SV.bool b_5, SV.slice
  s])) = some (SV.box b_6 30 (SV.struct [SV.int IntKind.i64 n, SV.int IntKind.i64 n_1, SV.bool b_5, SV.slice s])) ∧ some (SV.box b_7 45 (SV.struct [SV.int
  IntKind.i64 n_2, SV.int IntKind.i64 n_3, SV.int IntKind.i64 n_4, SV.int IntKind.i64 n_5, SV.int IntKind.i64 n_6, SV.int IntKind.i64 n_7, SV.int IntKind.i64
  n_8, SV.slice s_1, SV.slice s_2])) = some (SV.box b_7 45 (SV.struct [SV.int IntKind.i64 n_2, SV.int IntKind.i64 n_3, SV.int IntKind.i64 n_4, SV.int IntKind.i64
  n_5, SV.int IntKind.i64 n_6, SV.int IntKind.i64 n_7, SV.int IntKind.i64 n_8, SV.slice s_1, SV.slice s_2])) ∧ some (SV.box b_13 30 (SV.struct [SV.int IntKind.i64
  n, SV.int IntKind.i64 n_1, SV.bool b_5, SV.slice s_3])) = some (SV.box b_13 30 (SV.struct [SV.int IntKind.i64 n, SV.int IntKind.i64 n_1, SV.bool b_5, SV.slice
  s_3])) ∧ some (SV.box b_14 45 (SV.struct [SV.int IntKind.i64 n_2, SV.int IntKind.i64 n_3, SV.int IntKind.i64 n_4, SV.int IntKind.i64 n_5, SV.int IntKind.i64
  n_6, SV.int IntKind.i64 n_7, SV.int IntKind.i64 n_8, SV.slice s_5, SV.slice s_4])) = some (SV.box b_14 45 (SV.struct [SV.int IntKind.i64 n_2, SV.int IntKind.i64
  n_3, SV.int IntKind.i64 n_4, SV.int IntKind.i64 n_5, SV.int IntKind.i64 n_6, SV.int IntKind.i64 n_7, SV.int IntKind.i64 n_8, SV.slice s_5, SV.slice s_4]))
  ∧ J w1))))))) → J_2 w1) → ∀ (w1_18 : World), Upd [] [] w1 w1_18 → Ret Tryd.prog 25 [SV.int IntKind.i64 src_0, SV.struct [SV.int IntKind.i64 n, SV.int IntKind.i64
  n_1, SV.bool b_5, SV.slice s_3]] w1_18 fun (r : SV) (w1_19 : World) => ∃ (n_56 : Int), r = SV.int IntKind.i64 n_56 ∧ Keeps [b, b_1, b_2, b_3, b_6, b_7,
  b_13, b_14, b_15, b_18] w1_18 w1_19 ∧ Upd [] [] w1 w1_19 ∧ Ret Tryd.prog 20 [SV.int IntKind.i64 n_56] w1_19 fun (r : SV) (w1_20 : World) => ∃ (n_57 : Int),
  r = SV.int IntKind.i64 n_57 ∧ Keeps [b, b_1, b_2, b_3, b_6, b_7, b_13, b_14, b_15, b_18] w1_19 w1_20 ∧ Upd [] [] w1 w1_20 ∧ Ret Tryd.prog 59 [SV.int IntKind.i64
  src_0, SV.struct [SV.int IntKind.i64 n, SV.int IntKind.i64 n_1, SV.bool b_5, SV.slice s]] w1_20 fun (r : SV) (w1_21 : World) => ∃ (n_58 : Int), r = SV.int
  IntKind.i64 n_58 ∧ Keeps [b, b_1, b_2, b_3, b_6, b_7, b_13, b_14, b_15, b_18] w1_20 w1_21 ∧ Upd [] [] w1 w1_21 ∧ Br (n_57 != n_58) (R (SV.bool false) w1_21)
  (Ret Tryd.prog 29 [SV.struct [SV.int IntKind.i64 n_2, SV.int IntKind.i64 n_3, SV.int IntKind.i64 n_4, SV.int IntKind.i64 n_5, SV.int IntKind.i64 n_6, SV.int
  IntKind.i64 n_7, SV.int IntKind.i64 n_8, SV.slice s_5, SV.slice s_4]] w1_21 fun (r : SV) (w1_22 : World) => ∃ (n_59 : Int), r = SV.int IntKind.i64 n_59
  ∧ Keeps [b, b_1, b_2, b_3, b_6, b_7, b_13, b_14, b_15, b_18] w1_21 w1_22 ∧ Upd [] [] w1 w1_22 ∧ Ret Tryd.prog 20 [SV.int IntKind.i64 n_59] w1_22 fun (r
  : SV) (w1_23 : World) => ∃ (n_60 : Int), r = SV.int IntKind.i64 n_60 ∧ Keeps [b, b_1, b_2, b_3, b_6, b_7, b_13, b_14, b_15, b_18] w1_22 w1_23 ∧ Upd [] []
  w1 w1_23 ∧ Ret Tryd.prog 60 [SV.struct [SV.int IntKind.i64 n_2, SV.int IntKind.i64 n_3, SV.int IntKind.i64 n_4, SV.int IntKind.i64 n_5, SV.int IntKind.i64
  n_6, SV.int IntKind.i64 n_7, SV.int IntKind.i64 n_8, SV.slice s_1, SV.slice s_2]] w1_23 fun (r : SV) (w1 : World) => ∃ (n_61 : Int), r = SV.int IntKind.i64
  n_61 ∧ Keeps [b, b_1, b_2, b_3, b_6, b_7, b_13, b_14, b_15, b_18] w1_23 w1 ∧ Br (n_60 != n_61) (R (SV.bool false) w1) (some (SV.box b 27 (SV.struct [SV.int
  IntKind.i64 src_0, SV.arr IntKind.u8 16 src_1])) = some (SV.box b 27 (SV.struct [SV.int IntKind.i64 src_0, SV.arr IntKind.u8 16 src_1])) ∧ some (SV.box
  b_1 27 (SV.struct [SV.int IntKind.i64 dst_0, SV.arr IntKind.u8 16 dst_1])) = some (SV.box b_1 27 (SV.struct [SV.int IntKind.i64 dst_0, SV.arr IntKind.u8
  16 dst_1])) ∧ some (SV.box b_2 30 (SV.struct [SV.int IntKind.i64 u_0, SV.int IntKind.i64 u_1, SV.bool u_2, SV.slice u_3])) = some (SV.box b_2 30 (SV.struct
  [SV.int IntKind.i64 u_0, SV.int IntKind.i64 u_1, SV.bool u_2, SV.slice u_3])) ∧ some (SV.box b_3 45 (SV.struct [SV.int IntKind.i64 t_0, SV.int IntKind.i64
  t_1, SV.int IntKind.i64 t_2, SV.int IntKind.i64 t_3, SV.int IntKind.i64 t_4, SV.int IntKind.i64 t_5, SV.int IntKind.i64 t_6, SV.slice t_7, SV.slice t_8]))
  = some (SV.box b_3 45 (SV.struct [SV.int IntKind.i64 t_0, SV.int IntKind.i64 t_1, SV.int IntKind.i64 t_2, SV.int IntKind.i64 t_3, SV.int IntKind.i64 t_4,
  SV.int IntKind.i64 t_5, SV.int IntKind.i64 t_6, SV.slice t_7, SV.slice t_8])) ∧ some (SV.box b_6 30 (SV.struct [SV.int IntKind.i64 n, SV.int IntKind.i64
  n_1, SV.bool b_5, SV.slice s])) = some (SV.box b_6 30 (SV.struct [SV.int IntKind.i64 n, SV.int IntKind.i64 n_1, SV.bool b_5, SV.slice s])) ∧ some (SV.box
  b_7 45 (SV.struct [SV.int IntKind.i64 n_2, SV.int IntKind.i64 n_3, SV.int IntKind.i64 n_4, SV.int IntKind.i64 n_5, SV.int IntKind.i64 n_6, SV.int IntKind.i64
  n_7, SV.int IntKind.i64 n_8, SV.slice s_1, SV.slice s_2])) = some (SV.box b_7 45 (SV.struct [SV.int IntKind.i64 n_2, SV.int IntKind.i64 n_3, SV.int IntKind.i64
  n_4, SV.int IntKind.i64 n_5, SV.int IntKind.i64 n_6, SV.int IntKind.i64 n_7, SV.int IntKind.i64 n_8, SV.slice s_1, SV.slice s_2])) ∧ some (SV.box b_13 30
  (SV.struct [SV.int IntKind.i64 n, SV.int IntKind.i64 n_1, SV.bool b_5, SV.slice s_3])) = some (SV.box b_13 30 (SV.struct [SV.int IntKind.i64 n, SV.int IntKind.i64
  n_1, SV.bool b_5, SV.slice s_3])) ∧ some (SV.box b_14 45 (SV.struct [SV.int IntKind.i64 n_2, SV.int IntKind.i64 n_3, SV.int IntKind.i64 n_4, SV.int IntKind.i64
  n_5, SV.int IntKind.i64 n_6, SV.int IntKind.i64 n_7, SV.int IntKind.i64 n_8, SV.slice s_5, SV.slice s_4])) = some (SV.box b_14 45 (SV.struct [SV.int IntKind.i64
  n_2, SV.int IntKind.i64 n_3, SV.int IntKind.i64 n_4, SV.int IntKind.i64 n_5, SV.int IntKind.i64 n_6, SV.int IntKind.i64 n_7, SV.int IntKind.i64 n_8, SV.slice
  s_5, SV.slice s_4])) ∧ some (SV.box b_15 45 (SV.struct [SV.int IntKind.i64 n_14, SV.int IntKind.i64 n_15, SV.int IntKind.i64 n_16, SV.int IntKind.i64 n_17,
  SV.int IntKind.i64 n_18, SV.int IntKind.i64 n_19, SV.int IntKind.i64 n_20, SV.slice s_9, SV.slice s_10])) = some (SV.box b_15 45 (SV.struct [SV.int IntKind.i64
  n_14, SV.int IntKind.i64 n_15, SV.int IntKind.i64 n_16, SV.int IntKind.i64 n_17, SV.int IntKind.i64 n_18, SV.int IntKind.i64 n_19, SV.int IntKind.i64 n_20,
  SV.slice s_9, SV.slice s_10])) ∧ some (SV.box b_18 45 (SV.struct [SV.int IntKind.i64 n_48, SV.int IntKind.i64 n_49, SV.int IntKind.i64 n_50, SV.int IntKind.i64
  n_51, SV.int IntKind.i64 n_52, SV.int IntKind.i64 n_53, SV.int IntKind.i64 n_54, SV.slice s_21, SV.slice s_22])) = some (SV.box b_18 45 (SV.struct [SV.int
  IntKind.i64 n_48, SV.int IntKind.i64 n_49, SV.int IntKind.i64 n_50, SV.int IntKind.i64 n_51, SV.int IntKind.i64 n_52, SV.int IntKind.i64 n_53, SV.int IntKind.i64
  n_54, SV.slice s_21, SV.slice s_22])) ∧ J_2 w1))) → J_1 w1) → Ret Tryd.prog 20 [SV.int IntKind.i64 n_11] w1 fun (r : SV) (w1_18 : World) => ∃ (n_56 : Int),
  r = SV.int IntKind.i64 n_56 ∧ Keeps [b, b_1, b_2, b_3, b_6, b_7, b_13, b_14, b_15, b_18] w1 w1_18 ∧ Br (n_56 != n_24) (R (SV.bool false) w1_18) (Ret Tryd.prog
  20 [SV.int IntKind.i64 n_12] w1_18 fun (r : SV) (w1 : World) => ∃ (n_57 : Int), r = SV.int IntKind.i64 n_57 ∧ Keeps [b, b_1, b_2, b_3, b_6, b_7, b_13, b_14,
  b_15, b_18] w1_18 w1 ∧ Br (n_57 != n_32) (R (SV.bool false) w1) (Ret Tryd.prog 20 [SV.int IntKind.i64 n_13] w1 fun (r : SV) (w1_19 : World) => ∃ (n_58 :
  Int), r = SV.int IntKind.i64 n_58 ∧ Keeps [b, b_1, b_2, b_3, b_6, b_7, b_13, b_14, b_15, b_18] w1 w1_19 ∧ Br (n_58 != n_40) (R (SV.bool false) w1_19) (Ret
  Tryd.prog 30 [SV.slice s_6, SV.slice s_12] w1_19 fun (r : SV) (w1 : World) => ∃ (b_20 : Bool), r = SV.bool b_20 ∧ Keeps [b, b_1, b_2, b_3, b_6, b_7, b_13,
  b_14, b_15, b_18] w1_19 w1 ∧ Br (!b_20) (R (SV.bool false) w1) (Ret Tryd.prog 30 [SV.slice s_7, SV.slice s_15] w1 fun (r : SV) (w1_20 : World) => ∃ (b_21
  : Bool), r = SV.bool b_21 ∧ Keeps [b, b_1, b_2, b_3, b_6, b_7, b_13, b_14, b_15, b_18] w1 w1_20 ∧ Br (!b_21) (R (SV.bool false) w1_20) (Ret Tryd.prog 30
  [SV.slice s_8, SV.slice s_18] w1_20 fun (r : SV) (w1 : World) => ∃ (b_22 : Bool), r = SV.bool b_22 ∧ Keeps [b, b_1, b_2, b_3, b_6, b_7, b_13, b_14, b_15,
  b_18] w1_20 w1 ∧ Br (!b_22) (R (SV.bool false) w1) (Br (n_21 != n_55) (R (SV.bool false) w1) (Br (!b_16 == b_19) (R (SV.bool false) w1) (Ret Tryd.prog 28
  [SV.struct [SV.int IntKind.i64 n_14, SV.int IntKind.i64 n_15, SV.int IntKind.i64 n_16, SV.int IntKind.i64 n_17, SV.int IntKind.i64 n_18, SV.int IntKind.i64
  n_19, SV.int IntKind.i64 n_20, SV.slice s_9, SV.slice s_10], SV.struct [SV.int IntKind.i64 n_48, SV.int IntKind.i64 n_49, SV.int IntKind.i64 n_50, SV.int
  IntKind.i64 n_51, SV.int IntKind.i64 n_52, SV.int IntKind.i64 n_53, SV.int IntKind.i64 n_54, SV.slice s_21, SV.slice s_22]] w1 fun (r : SV) (w1_21 : World)
  => ∃ (b_23 : Bool), r = SV.bool b_23 ∧ Keeps [b, b_1, b_2, b_3, b_6, b_7, b_13, b_14, b_15, b_18] w1 w1_21 ∧ Br (!b_23) (R (SV.bool false) w1_21) (some
  (SV.box b 27 (SV.struct [SV.int IntKind.i64 src_0, SV.arr IntKind.u8 16 src_1])) = some (SV.box b 27 (SV.struct [SV.int IntKind.i64 src_0, SV.arr IntKind.u8
  16 src_1])) ∧ some (SV.box b_1 27 (SV.struct [SV.int IntKind.i64 dst_0, SV.arr IntKind.u8 16 dst_1])) = some (SV.box b_1 27 (SV.struct [SV.int IntKind.i64
  dst_0, SV.arr IntKind.u8 16 dst_1])) ∧ some (SV.box b_2 30 (SV.struct [SV.int IntKind.i64 u_0, SV.int IntKind.i64 u_1, SV.bool u_2, SV.slice u_3])) = some
  (SV.box b_2 30 (SV.struct [SV.int IntKind.i64 u_0, SV.int IntKind.i64 u_1, SV.bool u_2, SV.slice u_3])) ∧ some (SV.box b_3 45 (SV.struct [SV.int IntKind.i64
  t_0, SV.int IntKind.i64 t_1, SV.int IntKind.i64 t_2, SV.int IntKind.i64 t_3, SV.int IntKind.i64 t_4, SV.int IntKind.i64 t_5, SV.int IntKind.i64 t_6, SV.slice
  t_7, SV.slice t_8])) = some (SV.box b_3 45 (SV.struct [SV.int IntKind.i64 t_0, SV.int IntKind.i64 t_1, SV.int IntKind.i64 t_2, SV.int IntKind.i64 t_3, SV.int
  IntKind.i64 t_4, SV.int IntKind.i64 t_5, SV.int IntKind.i64 t_6, SV.slice t_7, SV.slice t_8])) ∧ some (SV.box b_6 30 (SV.struct [SV.int IntKind.i64 n, SV.int
  IntKind.i64 n_1, SV.bool b_5, SV.slice s])) = some (SV.box b_6 30 (SV.struct [SV.int IntKind.i64 n, SV.int IntKind.i64 n_1, SV.bool b_5, SV.slice s])) ∧
  some (SV.box b_7 45 (SV.struct [SV.int IntKind.i64 n_2, SV.int IntKind.i64 n_3, SV.int IntKind.i64 n_4, SV.int IntKind.i64 n_5, SV.int IntKind.i64 n_6,
  SV.int IntKind.i64 n_7, SV.int IntKind.i64 n_8, SV.slice s_1, SV.slice s_2])) = some (SV.box b_7 45 (SV.struct [SV.int IntKind.i64 n_2, SV.int IntKind.i64
  n_3, SV.int IntKind.i64 n_4, SV.int IntKind.i64 n_5, SV.int IntKind.i64 n_6, SV.int IntKind.i64 n_7, SV.int IntKind.i64 n_8, SV.slice s_1, SV.slice s_2]))
  ∧ some (SV.box b_13 30 (SV.struct [SV.int IntKind.i64 n, SV.int IntKind.i64 n_1, SV.bool b_5, SV.slice s_3])) = some (SV.box b_13 30 (SV.struct [SV.int
  IntKind.i64 n, SV.int IntKind.i64 n_1, SV.bool b_5, SV.slice s_3])) ∧ some (SV.box b_14 45 (SV.struct [SV.int IntKind.i64 n_2, SV.int IntKind.i64 n_3, SV.int
  IntKind.i64 n_4, SV.int IntKind.i64 n_5, SV.int IntKind.i64 n_6, SV.int IntKind.i64 n_7, SV.int IntKind.i64 n_8, SV.slice s_5, SV.slice s_4])) = some (SV.box
  b_14 45 (SV.struct [SV.int IntKind.i64 n_2, SV.int IntKind.i64 n_3, SV.int IntKind.i64 n_4, SV.int IntKind.i64 n_5, SV.int IntKind.i64 n_6, SV.int IntKind.i64
  n_7, SV.int IntKind.i64 n_8, SV.slice s_5, SV.slice s_4])) ∧ some (SV.box b_15 45 (SV.struct [SV.int IntKind.i64 n_14, SV.int IntKind.i64 n_15, SV.int IntKind.i64
  n_16, SV.int IntKind.i64 n_17, SV.int IntKind.i64 n_18, SV.int IntKind.i64 n_19, SV.int IntKind.i64 n_20, SV.slice s_9, SV.slice s_10])) = some (SV.box
  b_15 45 (SV.struct [SV.int IntKind.i64 n_14, SV.int IntKind.i64 n_15, SV.int IntKind.i64 n_16, SV.int IntKind.i64 n_17, SV.int IntKind.i64 n_18, SV.int
  IntKind.i64 n_19, SV.int IntKind.i64 n_20, SV.slice s_9, SV.slice s_10])) ∧ some (SV.box b_18 45 (SV.struct [SV.int IntKind.i64 n_48, SV.int IntKind.i64
  n_49, SV.int IntKind.i64 n_50, SV.int IntKind.i64 n_51, SV.int IntKind.i64 n_52, SV.int IntKind.i64 n_53, SV.int IntKind.i64 n_54, SV.slice s_21, SV.slice
  s_22])) = some (SV.box b_18 45 (SV.struct [SV.int IntKind.i64 n_48, SV.int IntKind.i64 n_49, SV.int IntKind.i64 n_50, SV.int IntKind.i64 n_51, SV.int IntKind.i64
  n_52, SV.int IntKind.i64 n_53, SV.int IntKind.i64 n_54, SV.slice s_21, SV.slice s_22])) ∧ J_1 w1_21)))))))))) (Br (decide (n_9 < (↑turns.2 : Int))) (Need
  (decide (0 ≤ n_9) && decide (n_9 < (↑turns.2 : Int)) && Option.isSome turns.1) (∃ (f : Nat → Int), (∀ (i : Nat), i < 2 → World.cell? w1 (Addr.add (Sl.at
  turns 2 (Int.toNat n_9)) (0 + i)) = some (Value.int IntKind.i64 (f i))) ∧ ∀ (w1_8 : World), Upd [] [] w1 w1_8 → Ret Tryd.prog 64 [SV.slice s, SV.slice { ptr := none, len := 0, cap := 0 },
  SV.arr IntKind.i64 2 f] w1_8 fun (r : SV) (w1 : World) => r = SV.tuple [] ∧ Keeps [b, b_1, b_2, b_3, b_6, b_7, b_13, b_14] w1_8 w1 ∧ Need (decide (0 ≤ n_9)
  && decide (n_9 < (↑turns.2 : Int)) && Option.isSome turns.1) (∃ (f : Nat → Int), (∀ (i : Nat), i < 2 → World.cell? w1 (Addr.add (Sl.at turns 2 (Int.toNat
  n_9)) (0 + i)) = some (Value.int IntKind.i64 (f i))) ∧ ∀ (w1_9 : World), Upd [] [] w1 w1_9 → Ret Tryd.prog 64 [SV.slice s_2, SV.slice s_1, SV.arr IntKind.i64
  2 f] w1_9 fun (r : SV) (w1 : World) => r = SV.tuple [] ∧ Keeps [b, b_1, b_2, b_3, b_6, b_7, b_13, b_14] w1_9 w1 ∧ some (SV.box b 27 (SV.struct [SV.int IntKind.i64
  src_0, SV.arr IntKind.u8 16 src_1])) = some (SV.box b 27 (SV.struct [SV.int IntKind.i64 src_0, SV.arr IntKind.u8 16 src_1])) ∧ some (SV.box b_1 27 (SV.struct
  [SV.int IntKind.i64 dst_0, SV.arr IntKind.u8 16 dst_1])) = some (SV.box b_1 27 (SV.struct [SV.int IntKind.i64 dst_0, SV.arr IntKind.u8 16 dst_1])) ∧ some
  (SV.box b_2 30 (SV.struct [SV.int IntKind.i64 u_0, SV.int IntKind.i64 u_1, SV.bool u_2, SV.slice u_3])) = some (SV.box b_2 30 (SV.struct [SV.int IntKind.i64
  u_0, SV.int IntKind.i64 u_1, SV.bool u_2, SV.slice u_3])) ∧ some (SV.box b_3 45 (SV.struct [SV.int IntKind.i64 t_0, SV.int IntKind.i64 t_1, SV.int IntKind.i64
  t_2, SV.int IntKind.i64 t_3, SV.int IntKind.i64 t_4, SV.int IntKind.i64 t_5, SV.int IntKind.i64 t_6, SV.slice t_7, SV.slice t_8])) = some (SV.box b_3 45
  (SV.struct [SV.int IntKind.i64 t_0, SV.int IntKind.i64 t_1, SV.int IntKind.i64 t_2, SV.int IntKind.i64 t_3, SV.int IntKind.i64 t_4, SV.int IntKind.i64 t_5,
  SV.int IntKind.i64 t_6, SV.slice t_7, SV.slice t_8])) ∧ some (SV.box b_6 30 (SV.struct [SV.int IntKind.i64 n, SV.int IntKind.i64 n_1, SV.bool b_5, SV.slice
  s])) = some (SV.box b_6 30 (SV.struct [SV.int IntKind.i64 n, SV.int IntKind.i64 n_1, SV.bool b_5, SV.slice s])) ∧ some (SV.box b_7 45 (SV.struct [SV.int
  IntKind.i64 n_2, SV.int IntKind.i64 n_3, SV.int IntKind.i64 n_4, SV.int IntKind.i64 n_5, SV.int IntKind.i64 n_6, SV.int IntKind.i64 n_7, SV.int IntKind.i64
  n_8, SV.slice s_1, SV.slice s_2])) = some (SV.box b_7 45 (SV.struct [SV.int IntKind.i64 n_2, SV.int IntKind.i64 n_3, SV.int IntKind.i64 n_4, SV.int IntKind.i64
  n_5, SV.int IntKind.i64 n_6, SV.int IntKind.i64 n_7, SV.int IntKind.i64 n_8, SV.slice s_1, SV.slice s_2])) ∧ J w1))) (some (SV.box b 27 (SV.struct [SV.int
  IntKind.i64 src_0, SV.arr IntKind.u8 16 src_1])) = some (SV.box b 27 (SV.struct [SV.int IntKind.i64 src_0, SV.arr IntKind.u8 16 src_1])) ∧ some (SV.box
  b_1 27 (SV.struct [SV.int IntKind.i64 dst_0, SV.arr IntKind.u8 16 dst_1])) = some (SV.box b_1 27 (SV.struct [SV.int IntKind.i64 dst_0, SV.arr IntKind.u8
  16 dst_1])) ∧ some (SV.box b_2 30 (SV.struct [SV.int IntKind.i64 u_0, SV.int IntKind.i64 u_1, SV.bool u_2, SV.slice u_3])) = some (SV.box b_2 30 (SV.struct
  [SV.int IntKind.i64 u_0, SV.int IntKind.i64 u_1, SV.bool u_2, SV.slice u_3])) ∧ some (SV.box b_3 45 (SV.struct [SV.int IntKind.i64 t_0, SV.int IntKind.i64
  t_1, SV.int IntKind.i64 t_2, SV.int IntKind.i64 t_3, SV.int IntKind.i64 t_4, SV.int IntKind.i64 t_5, SV.int IntKind.i64 t_6, SV.slice t_7, SV.slice t_8]))
  = some (SV.box b_3 45 (SV.struct [SV.int IntKind.i64 t_0, SV.int IntKind.i64 t_1, SV.int IntKind.i64 t_2, SV.int IntKind.i64 t_3, SV.int IntKind.i64 t_4,
  SV.int IntKind.i64 t_5, SV.int IntKind.i64 t_6, SV.slice t_7, SV.slice t_8])) ∧ some (SV.box b_6 30 (SV.struct [SV.int IntKind.i64 n, SV.int IntKind.i64
  n_1, SV.bool b_5, SV.slice s])) = some (SV.box b_6 30 (SV.struct [SV.int IntKind.i64 n, SV.int IntKind.i64 n_1, SV.bool b_5, SV.slice s])) ∧ some (SV.box
  b_7 45 (SV.struct [SV.int IntKind.i64 n_2, SV.int IntKind.i64 n_3, SV.int IntKind.i64 n_4, SV.int IntKind.i64 n_5, SV.int IntKind.i64 n_6, SV.int IntKind.i64
  n_7, SV.int IntKind.i64 n_8, SV.slice s_1, SV.slice s_2])) = some (SV.box b_7 45 (SV.struct [SV.int IntKind.i64 n_2, SV.int IntKind.i64 n_3, SV.int IntKind.i64
  n_4, SV.int IntKind.i64 n_5, SV.int IntKind.i64 n_6, SV.int IntKind.i64 n_7, SV.int IntKind.i64 n_8, SV.slice s_1, SV.slice s_2])) ∧ J w1))) → J w1_4) →
  Br (decide (n_9 ≤ (↑turns.2 : Int))) (Br (decide (n_9 < 12)) (some (SV.box b 27 (SV.struct [SV.int IntKind.i64 src_0, SV.arr IntKind.u8 16 src_1])) = some
  (SV.box b 27 (SV.struct [SV.int IntKind.i64 src_0, SV.arr IntKind.u8 16 src_1])) ∧ some (SV.box b_1 27 (SV.struct [SV.int IntKind.i64 dst_0, SV.arr IntKind.u8
  16 dst_1])) = some (SV.box b_1 27 (SV.struct [SV.int IntKind.i64 dst_0, SV.arr IntKind.u8 16 dst_1])) ∧ some (SV.box b_2 30 (SV.struct [SV.int IntKind.i64
  u_0, SV.int IntKind.i64 u_1, SV.bool u_2, SV.slice u_3])) = some (SV.box b_2 30 (SV.struct [SV.int IntKind.i64 u_0, SV.int IntKind.i64 u_1, SV.bool u_2,
  SV.slice u_3])) ∧ some (SV.box b_3 45 (SV.struct [SV.int IntKind.i64 t_0, SV.int IntKind.i64 t_1, SV.int IntKind.i64 t_2, SV.int IntKind.i64 t_3, SV.int
  IntKind.i64 t_4, SV.int IntKind.i64 t_5, SV.int IntKind.i64 t_6, SV.slice t_7, SV.slice t_8])) = some (SV.box b_3 45 (SV.struct [SV.int IntKind.i64 t_0,
  SV.int IntKind.i64 t_1, SV.int IntKind.i64 t_2, SV.int IntKind.i64 t_3, SV.int IntKind.i64 t_4, SV.int IntKind.i64 t_5, SV.int IntKind.i64 t_6, SV.slice
  t_7, SV.slice t_8])) ∧ some (SV.box b_6 30 (SV.struct [SV.int IntKind.i64 n, SV.int IntKind.i64 n_1, SV.bool b_5, SV.slice s])) = some (SV.box b_6 30 (SV.struct
  [SV.int IntKind.i64 n, SV.int IntKind.i64 n_1, SV.bool b_5, SV.slice s])) ∧ some (SV.box b_7 45 (SV.struct [SV.int IntKind.i64 n_2, SV.int IntKind.i64 n_3,
  SV.int IntKind.i64 n_4, SV.int IntKind.i64 n_5, SV.int IntKind.i64 n_6, SV.int IntKind.i64 n_7, SV.int IntKind.i64 n_8, SV.slice s_1, SV.slice s_2])) =
  some (SV.box b_7 45 (SV.struct [SV.int IntKind.i64 n_2, SV.int IntKind.i64 n_3, SV.int IntKind.i64 n_4, SV.int IntKind.i64 n_5, SV.int IntKind.i64 n_6,
  SV.int IntKind.i64 n_7, SV.int IntKind.i64 n_8, SV.slice s_1, SV.slice s_2])) ∧ J w1) (Ret Tryd.prog 65 [SV.ptr (some { block := b_11, off := 0 })] w1 fun
  (r : SV) (w1_4 : World) => ∃ (b_13 : Bool), r = SV.bool b_13 ∧ Keeps [b, b_1, b_2, b_3, b_6, b_7] w1 w1_4 ∧ Br b_13 (Ret Tryd.prog 52 [SV.ptr (some { block := b_12, off := 0 })]
  w1_4 fun (r : SV) (w1 : World) => ∃ (b_14 : Bool), r = SV.bool b_14 ∧ Keeps [b, b_1, b_2, b_3, b_6, b_7] w1_4 w1 ∧ R (SV.bool b_14) w1) (R (SV.bool false)
  w1_4))) (Ret Tryd.prog 65 [SV.ptr (some { block := b_11, off := 0 })] w1 fun (r : SV) (w1_4 : World) => ∃ (b_13 : Bool), r = SV.bool b_13 ∧ Keeps [b, b_1,
  b_2, b_3, b_6, b_7] w1 w1_4 ∧ Br b_13 (Ret Tryd.prog 52 [SV.ptr (some { block := b_12, off := 0 })] w1_4 fun (r : SV) (w1 : World) => ∃ (b_14 : Bool), r
  = SV.bool b_14 ∧ Keeps [b, b_1, b_2, b_3, b_6, b_7] w1_4 w1 ∧ R (SV.bool b_14) w1) (R (SV.bool false) w1_4)))
theorem f16_of (src_0 : Int) (src_1 : Nat → Int) (dst_0 : Int) (dst_1 : Nat → Int) (u_0 : Int) (u_1 : Int) (u_2 : Bool) (u_3 : Sl) (t_0 : Int) (t_1 : Int) (t_2 : Int) (t_3 : Int) (t_4 : Int) (t_5 : Int) (t_6 : Int) (t_7 : Sl) (t_8 : Sl) (most : Int) (turns : Sl) (w : World) (R : SV → World → Prop) (hV : vc16 src_0 src_1 dst_0 dst_1 u_0 u_1 u_2 u_3 t_0 t_1 t_2 t_3 t_4 t_5 t_6 t_7 t_8 most turns w R) : Ret Tryd.prog 16 [.struct [.int .i64 src_0, .arr .u8 16 src_1], .struct [.int .i64 dst_0, .arr .u8 16 dst_1], .struct [.int .i64 u_0, .int .i64 u_1, .bool u_2, .slice u_3], .struct [.int .i64 t_0, .int .i64 t_1, .int .i64 t_2, .int .i64 t_3, .int .i64 t_4, .int .i64 t_5, .int .i64 t_6, .slice t_7, .slice t_8], .int .i64 most, .slice turns] w R :=
  have e : vc16 src_0 src_1 dst_0 dst_1 u_0 u_1 u_2 u_3 t_0 t_1 t_2 t_3 t_4 t_5 t_6 t_7 t_8 most turns w R = fnVC X Tryd.f16 a16 [.struct [.int .i64 src_0, .arr .u8 16 src_1], .struct [.int .i64 dst_0, .arr .u8 16 dst_1], .struct [.int .i64 u_0, .int .i64 u_1, .bool u_2, .slice u_3], .struct [.int .i64 t_0, .int .i64 t_1, .int .i64 t_2, .int .i64 t_3, .int .i64 t_4, .int .i64 t_5, .int .i64 t_6, .slice t_7, .slice t_8], .int .i64 most, .slice turns] w R := by kernel_rfl
  fnVC_sound X_ok (n := a16) (e ▸ hV) (by kernel_rfl) (by kernel_rfl) rfl rfl

end Go.Vc.S9
end

section
open Go Go.Vc Go.Proofs
set_option linter.unusedVariables false
set_option linter.unusedSimpArgs false
set_option autoImplicit false
namespace Go.Vc.S9
def cT : Cod (Int × Int) := ⟨2, fun p => [.int .i64 p.1, .int .i64 p.2], fun _ => rfl, by simp [Value.oneCell']⟩
/-- a colouring that tells the elder blocks' colours as before, where these are small -/
def Same (c c' : Nat → Nat) (z : Nat) : Prop := ∀ x, x < z → c x ≤ 8 → c' x = c x
theorem Same.rc (c : Nat → Nat) (z k : Nat) : Same c (S9.rc c z k) z := fun x hx _ => by unfold S9.rc; rw [if_pos hx]
theorem Same.refl (c : Nat → Nat) (z : Nat) : Same c c z := fun _ _ _ => rfl
theorem Col.same {c c' : Nat → Nat} {j z : Nat} {S : List Nat} (h : Col c j S) (s : Same c c' z) (hj : j ≤ 8) (hz : ∀ x ∈ S, x < z) : Col c' j S := fun x hx => by
  rw [s x (hz x hx) (by rw [h x hx]; exact hj), h x hx]
/-- lists of options: the blocks alone -/
def LkAt (N : Nat) (w : World) (lk n : Nat) (hd : List Nat) : Prop :=
  ∃ L W ls gs hs, Lsts N w lk L W ls gs hs ∧ hd = lk :: (lotB L gs ++ lotB W hs) ∧ ls.length = n ∧ ∀ l ∈ ls, l.length ≤ 2000000
section
variable {N lk n : Nat} {w w1 : World} {R : SV → World → Prop} {hd : List Nat}
theorem LkAt.lt (h : LkAt N w lk n hd) (hN : N ≤ lk) : ∀ x ∈ hd, N ≤ x ∧ x < w.heap.size := by
  obtain ⟨L, W, ls, gs, hs, hB, rfl, _⟩ := h
  intro x hx
  rcases List.mem_cons.1 hx with rfl | q
  · exact ⟨hN, hB.box.lt⟩
  · rcases List.mem_append.1 q with q | q
    · exact hB.A.lt x q
    · exact hB.B.lt x q
theorem LkAt.upd {m nn : List Nat} (h : LkAt N w lk n hd) (u : Upd m nn w w1) (hm : ∀ x ∈ hd, x ∉ m) : LkAt N w1 lk n hd := by
  obtain ⟨L, W, ls, gs, hs, hB, rfl, h1, h2⟩ := h
  exact ⟨L, W, ls, gs, hs, ⟨hB.box.upd u (hm _ (by simp)), hB.A.upd u (fun x hx => hm x (by simp [hx])), hB.B.upd u (fun x hx => hm x (by simp [hx])), hB.apart, hB.offA, hB.offB⟩, rfl, h1, h2⟩
theorem LkAt.keep {g : Sl} {l : List (Int × Sl)} (h : LkAt N w lk n hd) (hg : Sees cOpt w g l) (og : Own N 2 w g) (hdis : ∀ x ∈ g.blk, x ∉ hd) (hN : N ≤ w.heap.size) (hl : l.length ≤ 2000000) (hn : n ≤ 1000000)
    (k : ∀ hd' w1, Upd hd [] w w1 → LkAt N w1 lk (n + 1) hd' → (∀ x ∈ hd', x ∈ hd ∨ x ∈ g.blk ∨ w.heap.size ≤ x) → R (.tuple []) w1) : Ret Tryd.prog 49 [.ptr (some ⟨lk, 0, none⟩), .slice g] w R := by
  obtain ⟨L, W, ls, gs, hs, hB, rfl, h1, h2⟩ := h
  refine c49 hB hg og (fun x hx => ?_) hN (by omega) (by omega) fun L' W' c w1 ms u hms hB' nA nB => ?_
  · have := hdis x hx
    simp only [List.mem_cons, List.mem_append, not_or] at this
    exact ⟨this.2.1, this.2.2, this.1⟩
  · refine k _ w1 (u.wide (fun x hx => ?_)) ⟨L', W', _, _, _, hB', rfl, by simp [h1], fun l' hl' => ?_⟩ (fun x hx => ?_)
    · rcases hms x hx with q | q | q
      · simp [q]
      · simp [lotB_mem.2 (.inl q)]
      · simp [lotB_mem.2 (.inl q)]
    · rcases List.mem_append.1 hl' with q | q
      · exact h2 l' q
      · rw [List.mem_singleton] at q; subst q; exact hl
    · rcases List.mem_cons.1 hx with q | q
      · exact .inl (by simp [q])
      · rcases List.mem_append.1 q with q | q
        · rcases nA x q with r | r | r
          · exact .inl (by simp [r])
          · exact .inr (.inl r)
          · exact .inr (.inr r)
        · rcases nB x q with r | r
          · exact .inl (by simp [r])
          · exact .inr (.inr r)
theorem LkAt.untouched (h : LkAt N w lk n hd) (hn : n ≤ 1000000) (k : ∀ w1, Upd [] [] w w1 → R (.bool true) w1) : Ret Tryd.prog 51 [.ptr (some ⟨lk, 0, none⟩)] w R := by
  obtain ⟨L, W, ls, gs, hs, hB, rfl, h1, h2⟩ := h
  exact c51T hB (by omega) (fun l hl => by have := h2 l hl; omega) k
theorem LkAt.settle (h : LkAt N w lk n hd) (hn : n ≤ 1000000) (hN : N ≤ w.heap.size) (k : ∀ w1, Upd hd [] w w1 → R (.bool true) w1) : Ret Tryd.prog 52 [.ptr (some ⟨lk, 0, none⟩)] w R := by
  obtain ⟨L, W, ls, gs, hs, hB, rfl, h1, h2⟩ := h
  refine c52T hB (by omega) (fun l hl => by have := h2 l hl; omega) hN fun w1 ms u hms => k w1 (u.wide (fun x hx => by simp [hms x hx]))
theorem LkAt.start {e : Nat} (hr : w.heap[lk]? = some (.cells (SV.cells (SV.struct [SV.slice ⟨none, 0, 0⟩, SV.slice ⟨none, 0, 0⟩])).toArray e (0, 0))) : LkAt N w lk 0 [lk] :=
  ⟨_, _, [], [], [], ⟨Bx.mk' (l := [.sl ⟨none, 0, 0⟩, .sl ⟨none, 0, 0⟩]) hr rfl, LotC.nil _ _ _, LotC.nil _ _ _, by simp [lotB, Sl.blk], by simp [lotB, Sl.blk], by simp [lotB, Sl.blk]⟩, by simp [lotB, Sl.blk], rfl, by simp⟩
end
/-- what is carried along: the lender's own values, the book, the lists -/
structure Bs (N : Nat) (w : World) (c : Nat → Nat) (bk lk : Nat) (su st sd : Sl) (ot : List (Int × Sl)) (ul : List Int) (l : List Opt) (tl : List Int) (q p : Nat) : Prop where
  du : SeesB w su ul
  ou : Own N 1 w su
  lst : Lst N w st l ot
  dt : SeesB w sd tl
  od : Own N 1 w sd
  book : ∃ n hd, BkAt N w bk n hd ∧ n ≤ q ∧ Col c 7 hd
  lists : ∃ n hd, LkAt N w lk n hd ∧ n ≤ p ∧ Col c 8 hd
  le : N ≤ bk
  le2 : N ≤ lk
  cu : Col c 1 su.blk
  cl : Col c 2 (lstB st ot)
  cd : Col c 3 sd.blk
section
variable {N bk lk q p : Nat} {w w1 : World} {c c' : Nat → Nat} {su st sd : Sl} {ot : List (Int × Sl)} {ul tl : List Int} {l : List Opt} {R : SV → World → Prop}
theorem Bs.gen {m nn : List Nat} (h : Bs N w c bk lk su st sd ot ul l tl q p) (u : Upd m nn w w1) (hm : ∀ x ∈ m, c x ≠ 1 ∧ c x ≠ 2 ∧ c x ≠ 3 ∧ c x ≠ 7 ∧ c x ≠ 8) (s : Same c c' w.heap.size) : Bs N w1 c' bk lk su st sd ot ul l tl q p := by
  obtain ⟨n, hd, hB, hn, hc⟩ := h.book
  obtain ⟨n2, hd2, hL, hn2, hc2⟩ := h.lists
  have o1 : ∀ x ∈ su.blk, x ∉ m := fun x hx hx2 => (hm x hx2).1 (h.cu x hx)
  have o2 : ∀ x ∈ sd.blk, x ∉ m := fun x hx hx2 => (hm x hx2).2.2.1 (h.cd x hx)
  exact ⟨h.du.upd u o1, h.ou.upd u o1, h.lst.upd u (fun x hx hx2 => (hm x hx2).2.1 (h.cl x hx)), h.dt.upd u o2, h.od.upd u o2,
    ⟨n, hd, hB.upd u (fun x hx hx2 => (hm x hx2).2.2.2.1 (hc x hx)), hn, hc.same s (by decide) (fun x hx => (hB.lt h.le x hx).2)⟩,
    ⟨n2, hd2, hL.upd u (fun x hx hx2 => (hm x hx2).2.2.2.2 (hc2 x hx)), hn2, hc2.same s (by decide) (fun x hx => (hL.lt h.le2 x hx).2)⟩,
    h.le, h.le2, h.cu.same s (by decide) (fun x hx => (h.ou.blk x hx).2), h.cl.same s (by decide) (fun x hx => (h.lst.lt x hx).2), h.cd.same s (by decide) (fun x hx => (h.od.blk x hx).2)⟩
theorem Bs.old {nn : List Nat} (h : Bs N w c bk lk su st sd ot ul l tl q p) (u : Upd [] nn w w1) : Bs N w1 c bk lk su st sd ot ul l tl q p := h.gen u (by simp) (.refl _ _)
theorem Bs.mono {q' p' : Nat} (h : Bs N w c bk lk su st sd ot ul l tl q p) (hq : q ≤ q') (hp : p ≤ p') : Bs N w c bk lk su st sd ot ul l tl q' p' := by
  obtain ⟨n, hd, hB, hn, hc⟩ := h.book
  obtain ⟨n2, hd2, hL, hn2, hc2⟩ := h.lists
  exact ⟨h.du, h.ou, h.lst, h.dt, h.od, ⟨n, hd, hB, by omega, hc⟩, ⟨n2, hd2, hL, by omega, hc2⟩, h.le, h.le2, h.cu, h.cl, h.cd⟩
theorem Bs.size (h : Bs N w c bk lk su st sd ot ul l tl q p) : N ≤ w.heap.size := by
  obtain ⟨_, _, ⟨_, _, _, _, _, hB', _⟩, _⟩ := h.book
  have := hB'.box.lt; have := h.le; omega
theorem Bs.setU {ul' : List Int} {m nn : List Nat} (h : Bs N w c bk lk su st sd ot ul l tl q p) (u : Upd m nn w w1) (hm : ∀ x ∈ m, c x = 1) (hd : SeesB w1 su ul') (ho : Own N 1 w1 su) : Bs N w1 c bk lk su st sd ot ul' l tl q p := by
  obtain ⟨n, hd', hB, hn, hc⟩ := h.book
  obtain ⟨n2, hd2, hL, hn2, hc2⟩ := h.lists
  have off : ∀ {S : List Nat} {j : Nat}, Col c j S → j ≠ 1 → ∀ x ∈ S, x ∉ m := fun hS hj x hx hx2 => hj ((hS x hx).symm.trans (hm x hx2))
  exact ⟨hd, ho, h.lst.upd u (off h.cl (by decide)), h.dt.upd u (off h.cd (by decide)), h.od.upd u (off h.cd (by decide)), ⟨n, hd', hB.upd u (off hc (by decide)), hn, hc⟩, ⟨n2, hd2, hL.upd u (off hc2 (by decide)), hn2, hc2⟩, h.le, h.le2, h.cu, h.cl, h.cd⟩
theorem Bs.setT {l' : List Opt} {tl' : List Int} {m nn : List Nat} (h : Bs N w c bk lk su st sd ot ul l tl q p) (u : Upd m nn w w1) (hm : ∀ x ∈ m, c x = 2 ∨ c x = 3) (hl : Lst N w1 st l' ot) (hd : SeesB w1 sd tl') (ho : Own N 1 w1 sd) : Bs N w1 c bk lk su st sd ot ul l' tl' q p := by
  obtain ⟨n, hd', hB, hn, hc⟩ := h.book
  obtain ⟨n2, hd2, hL, hn2, hc2⟩ := h.lists
  have off : ∀ {S : List Nat} {j : Nat}, Col c j S → j ≠ 2 ∧ j ≠ 3 → ∀ x ∈ S, x ∉ m := fun hS hj x hx hx2 => by
    have := hS x hx
    rcases hm x hx2 with e | e <;> omega
  exact ⟨h.du.upd u (off h.cu (by decide)), h.ou.upd u (off h.cu (by decide)), hl, hd, ho, ⟨n, hd', hB.upd u (off hc (by decide)), hn, hc⟩, ⟨n2, hd2, hL.upd u (off hc2 (by decide)), hn2, hc2⟩, h.le, h.le2, h.cu, h.cl, h.cd⟩
/-- the blocks S take colour k, and so does what is new -/
def kc (c : Nat → Nat) (z : Nat) (S : List Nat) (k : Nat) : Nat → Nat := fun x => if x < z then (if x ∈ S then k else c x) else k
theorem Same.kc {S : List Nat} {j k : Nat} (hS : Col c j S) (hj : 9 ≤ j) (z : Nat) : Same c (S9.kc c z S k) z := fun x hx h8 => by
  unfold S9.kc
  rw [if_pos hx, if_neg (fun hm => by have := hS x hm; omega)]
theorem Col.kc {j k z : Nat} {S T : List Nat} (h : Col c j T) (hS : ∀ x ∈ T, x ∉ S) (hz : ∀ x ∈ T, x < z) : Col (S9.kc c z S k) j T := fun x hx => by
  unfold S9.kc
  rw [if_pos (hz x hx), if_neg (hS x hx)]
  exact h x hx
/-- a list of bytes more in the book -/
theorem Bs.keep {j : Nat} {g : Sl} {gl : List Int} (h : Bs N w c bk lk su st sd ot ul l tl q p) (hg : SeesB w g gl) (og : Own N 1 w g) (hc : Col c j g.blk) (hj : 9 ≤ j) (hb : Byt gl) (hl : gl.length ≤ 2000000) (hn : q ≤ 90000000)
    (k : ∀ w1 hd, Upd hd [] w w1 → (∀ x ∈ hd, c x = 7 ∧ N ≤ x ∧ x < w.heap.size) → Bs N w1 (kc c w.heap.size g.blk 7) bk lk su st sd ot ul l tl (q + 1) p → R (.tuple []) w1) : Ret Tryd.prog 61 [.ptr (some ⟨bk, 0, none⟩), .slice g] w R := by
  obtain ⟨n, hd, hB, hnq, hcB⟩ := h.book
  have lt := hB.lt h.le
  refine hB.keep hg og (hc.off hcB (by omega)) h.size hb hl (by omega) fun hd' w1 u hB1 nw => k w1 hd u (fun x hx => ⟨hcB x hx, lt x hx⟩) ?_
  have s := Same.kc (k := 7) hc hj w.heap.size
  obtain ⟨n2, hd2, hL, hn2, hc2⟩ := h.lists
  have o1 := h.cu.off hcB (by decide)
  have o2 := h.cd.off hcB (by decide)
  refine ⟨h.du.upd u o1, h.ou.upd u o1, h.lst.upd u (h.cl.off hcB (by decide)), h.dt.upd u o2, h.od.upd u o2, ⟨n + 1, hd', hB1, by omega, fun x hx => ?_⟩,
    ⟨n2, hd2, hL.upd u (hc2.off hcB (by decide)), hn2, hc2.same s (by decide) (fun x hx => (hL.lt h.le2 x hx).2)⟩, h.le, h.le2, h.cu.same s (by decide) (fun x hx => (h.ou.blk x hx).2), h.cl.same s (by decide) (fun x hx => (h.lst.lt x hx).2), h.cd.same s (by decide) (fun x hx => (h.od.blk x hx).2)⟩
  unfold kc
  rcases nw x hx with r | r | r
  · rw [if_pos (lt x r).2]
    split
    · rfl
    · exact hcB x r
  · rw [if_pos (og.blk x r).2, if_pos r]
  · rw [if_neg (by omega)]
/-- a list of options more -/
theorem Bs.keepL {j : Nat} {g : Sl} {gl : List (Int × Sl)} (h : Bs N w c bk lk su st sd ot ul l tl q p) (hg : Sees cOpt w g gl) (og : Own N 2 w g) (hc : Col c j g.blk) (hj : 9 ≤ j) (hl : gl.length ≤ 2000000) (hn : p ≤ 900000)
    (k : ∀ w1 hd, Upd hd [] w w1 → (∀ x ∈ hd, c x = 8 ∧ N ≤ x ∧ x < w.heap.size) → Bs N w1 (kc c w.heap.size g.blk 8) bk lk su st sd ot ul l tl q (p + 1) → R (.tuple []) w1) : Ret Tryd.prog 49 [.ptr (some ⟨lk, 0, none⟩), .slice g] w R := by
  obtain ⟨n, hd, hB, hnq, hcB⟩ := h.book
  obtain ⟨n2, hd2, hL, hn2, hc2⟩ := h.lists
  have lt := hL.lt h.le2
  refine hL.keep hg og (hc.off hc2 (by omega)) h.size hl (by omega) fun hd' w1 u hL1 nw => k w1 hd2 u (fun x hx => ⟨hc2 x hx, lt x hx⟩) ?_
  have s := Same.kc (k := 8) hc hj w.heap.size
  have o1 := h.cu.off hc2 (by decide)
  have o2 := h.cd.off hc2 (by decide)
  refine ⟨h.du.upd u o1, h.ou.upd u o1, h.lst.upd u (h.cl.off hc2 (by decide)), h.dt.upd u o2, h.od.upd u o2, ⟨n, hd, hB.upd u (hcB.off hc2 (by decide)), hnq, hcB.same s (by decide) (fun x hx => (hB.lt h.le x hx).2)⟩,
    ⟨n2 + 1, hd', hL1, by omega, fun x hx => ?_⟩, h.le, h.le2, h.cu.same s (by decide) (fun x hx => (h.ou.blk x hx).2), h.cl.same s (by decide) (fun x hx => (h.lst.lt x hx).2), h.cd.same s (by decide) (fun x hx => (h.od.blk x hx).2)⟩
  unfold kc
  rcases nw x hx with r | r | r
  · rw [if_pos (lt x r).2]
    split
    · rfl
    · exact hc2 x r
  · rw [if_pos (og.blk x r).2, if_pos r]
  · rw [if_neg (by omega)]
end
theorem Dq.lend {N : Nat} {w : World} {R : SV → World → Prop} {p : Nat} {room b : Sl} {l : List Int} (h : Dq N w p room) (hb : SeesB w b l) (hl : l.length ≤ 140737488351232) (hB : ∀ x ∈ b.blk, x < w.heap.size ∧ x ∉ dqB (p, room))
    (k : ∀ room' K w1, Upd (dqB (p, room)) [] w w1 → Dsk N w1 p l K room' → K ≤ 281474976710656 → (∀ x ∈ dqB (p, room'), x ∈ dqB (p, room) ∨ w.heap.size ≤ x) → R (.slice (room'.sub 1 0 (Int.toNat (b.len : Int)) room'.cap)) w1) :
    Ret Tryd.prog 43 [.ptr (some ⟨p, 0, none⟩), .slice b] w R := by
  obtain ⟨n', hx⟩ := h.box
  obtain ⟨L', hL, hLl⟩ := h.sees
  have hle := h.le
  have hbl := hx.lt
  refine c43D (N := N) hx hL h.own h.off hLl (by omega) hb hl (fun x hx => ⟨(hB x hx).1, fun hm => (hB x hx).2 (by simp [dqB, hm]), fun e => (hB x hx).2 (by simp [dqB, e])⟩) fun room' K w1 ms u hms hd hK hn => ?_
  refine k room' K w1 (u.wide (fun x hx => by
    rcases hms x hx with q | q
    · simp [dqB, q]
    · simp [dqB, q])) hd hK (fun x hx => ?_)
  rcases List.mem_cons.1 hx with e | q
  · exact .inl (by simp [dqB, e])
  · rcases hn x q with q | q
    · exact .inr q
    · exact .inl (by simp [dqB, q])
/-- the desks and the rooms, whatever lies there -/
structure Dr (N : Nat) (w : World) (c : Nat → Nat) (bd bf br : Nat) : Prop where
  desk : ∃ room, Dq N w bd room ∧ Col c 4 (dqB (bd, room))
  desk2 : ∃ room, Dq N w bf room ∧ Col c 5 (dqB (bf, room))
  rm : ∃ hd, RmAt N w br hd ∧ Col c 6 hd
section
variable {N bd bf br : Nat} {w w1 : World} {c c' : Nat → Nat} {R : SV → World → Prop}
theorem Dr.gen {m nn : List Nat} (h : Dr N w c bd bf br) (u : Upd m nn w w1) (hm : ∀ x ∈ m, c x ≠ 4 ∧ c x ≠ 5 ∧ c x ≠ 6) (s : Same c c' w.heap.size) : Dr N w1 c' bd bf br := by
  obtain ⟨room, a1, a2⟩ := h.desk
  obtain ⟨room2, b1, b2⟩ := h.desk2
  obtain ⟨hd, e1, e2⟩ := h.rm
  exact ⟨⟨room, a1.upd u (fun x hx hx2 => (hm x hx2).1 (a2 x hx)), a2.same s (by decide) (fun x hx => (a1.lt x hx).2)⟩, ⟨room2, b1.upd u (fun x hx hx2 => (hm x hx2).2.1 (b2 x hx)), b2.same s (by decide) (fun x hx => (b1.lt x hx).2)⟩, ⟨hd, e1.upd u (fun x hx hx2 => (hm x hx2).2.2 (e2 x hx)), e2.same s (by decide) (fun x hx => (e1.lt.2 x hx).2)⟩⟩
/-- the desks and the rooms, with what was lent -/
structure Ln (N : Nat) (w : World) (c : Nat → Nat) (bd bf br : Nat) (ul tl : List Int) (l : List Opt) (K K2 : Nat) (room room2 p1 : Sl) (o1 : List (Int × Sl)) : Prop where
  desk : Dsk N w bd ul K room
  desk2 : Dsk N w bf tl K2 room2
  laid : ∃ hd, Laid N w br l hd p1 o1 ∧ Col c 6 hd
  cd : Col c 4 (dqB (bd, room))
  cf : Col c 5 (dqB (bf, room2))
  kd : K ≤ 281474976710656
  kf : K2 ≤ 281474976710656
  ld : N ≤ bd
  lf : N ≤ bf
variable {ul tl : List Int} {l : List Opt} {K K2 : Nat} {room room2 p1 : Sl} {o1 : List (Int × Sl)}
theorem Ln.dr (h : Ln N w c bd bf br ul tl l K K2 room room2 p1 o1) : Dr N w c bd bf br := by
  obtain ⟨hd, e1, e2⟩ := h.laid
  exact ⟨⟨room, Dq.ofDsk h.desk h.kd h.ld, h.cd⟩, ⟨room2, Dq.ofDsk h.desk2 h.kf h.lf, h.cf⟩, ⟨hd, e1.at, e2⟩⟩
theorem Ln.gen {m nn : List Nat} (h : Ln N w c bd bf br ul tl l K K2 room room2 p1 o1) (u : Upd m nn w w1) (hm : ∀ x ∈ m, c x ≠ 4 ∧ c x ≠ 5 ∧ c x ≠ 6) (s : Same c c' w.heap.size) : Ln N w1 c' bd bf br ul tl l K K2 room room2 p1 o1 := by
  obtain ⟨hd, e1, e2⟩ := h.laid
  have lt1 := (Dq.ofDsk h.desk h.kd h.ld).lt
  have lt2 := (Dq.ofDsk h.desk2 h.kf h.lf).lt
  have n1 : ∀ x ∈ dqB (bd, room), x ∉ m := fun x hx hx2 => (hm x hx2).1 (h.cd x hx)
  have n2 : ∀ x ∈ dqB (bf, room2), x ∉ m := fun x hx hx2 => (hm x hx2).2.1 (h.cf x hx)
  exact ⟨h.desk.upd u (n1 _ (by simp [dqB])) (fun x hx => n1 x (by simp [dqB, hx])), h.desk2.upd u (n2 _ (by simp [dqB])) (fun x hx => n2 x (by simp [dqB, hx])), ⟨hd, e1.upd u (fun x hx hx2 => (hm x hx2).2.2 (e2 x hx)), e2.same s (by decide) (fun x hx => (e1.at.lt.2 x hx).2)⟩,
    h.cd.same s (by decide) (fun x hx => (lt1 x hx).2), h.cf.same s (by decide) (fun x hx => (lt2 x hx).2), h.kd, h.kf, h.ld, h.lf⟩
theorem Ln.old {nn : List Nat} (h : Ln N w c bd bf br ul tl l K K2 room room2 p1 o1) (u : Upd [] nn w w1) : Ln N w1 c bd bf br ul tl l K K2 room room2 p1 o1 := h.gen u (by simp) (.refl _ _)
end
/-- a list that was handed out and is not in a book yet -/
structure Kp {α : Type} (cd : Cod α) (N : Nat) (w : World) (c : Nat → Nat) (j : Nat) (g : Sl) (gl : List α) : Prop where
  sees : Sees cd w g gl
  own : Own N cd.sz w g
  col : Col c j g.blk
theorem Kp.kc {α : Type} {cd : Cod α} {N j k : Nat} {w w1 : World} {c : Nat → Nat} {g : Sl} {gl : List α} {hd nn S : List Nat} (h : Kp cd N w c j g gl) (u : Upd hd nn w w1) (hm : ∀ x ∈ hd, c x ≤ 8) (hj : 9 ≤ j) (hS : ∀ x ∈ g.blk, x ∉ S) : Kp cd N w1 (S9.kc c w.heap.size S k) j g gl := by
  have o : ∀ x ∈ g.blk, x ∉ hd := fun x hx hx2 => by have := h.col x hx; have := hm x hx2; omega
  exact ⟨h.sees.upd u o, h.own.upd u o, h.col.kc hS (fun x hx => (h.own.blk x hx).2)⟩
end Go.Vc.S9
end

section
open Go Go.Vc Go.Proofs
set_option linter.unusedVariables false
set_option linter.unusedSimpArgs false
set_option autoImplicit false
namespace Go.Vc.S9
theorem putL9_bytL {l : List Opt} (hb : ∀ o ∈ l, Byt o.data) : Byt (putL9 l) := by
  unfold putL9; split
  · exact putO_byt hb
  · intro x hx; simp at hx
section
variable {e : Ends} {w : World} {u : UdV} {t : TcV} {so sd du : Sl} {os : List (Int × Sl)}
set_option maxRecDepth 40000 in
set_option maxHeartbeats 4000000 in
theorem c16 {most : Int} {turns : Sl} {ts : List (Int × Int)} (hg : Tabs w) (o : e.Ok) (hU : HandU w u du) (hT : HandT w t so sd os) (hL : t.opts.length ≤ 1048576) (hod : ∀ o ∈ t.opts, o.data.length ≤ 1048576)
    (hm : -9223372036854775808 ≤ most ∧ most ≤ 9223372036854775807) (ht : Sees cT w turns ts) (hv : ∀ y ∈ ts, -9223372036854775808 ≤ y.1 ∧ y.1 ≤ 9223372036854775807) :
    Ret Tryd.prog 16 [adr e.sv e.sa, adr e.dv e.da, udSV u du, tcSV t so sd, .int .i64 most, .slice turns] w fun r w1 => r = .bool true ∧ Upd [] [] w w1 := by
  refine f16_of _ _ _ _ _ _ _ _ _ _ _ _ _ _ _ _ _ _ _ _ _ ?_
  unfold vc16
  have htn := ht.len
  have hud := hU.dlen
  have htd := hT.dlen
  intro b0 b1 b2 b3 w1 u1
  have n0 := u1.new (b := b0) (by simp)
  have n1 := u1.new (b := b1) (by simp)
  have n2 := u1.new (b := b2) (by simp)
  have n3 := u1.new (b := b3) (by simp)
  refine c18 (hg.old u1) fun w2 u2 => ⟨_, rfl, kp u2, brf rfl ?_⟩
  have v2 := u1.then u2
  refine c37 (u := u) (hU.old v2).data (by omega) fun su w3 u3 hsu osu => ⟨_, _, _, _, rfl, kp u3, ?_⟩
  have v3 := v2.then u3
  intro b6 w4 u4
  have n6 := u4.new (b := b6) (by simp)
  have v4 := v3.then u4
  have h4 := hT.old v4
  refine c38 (t := t) h4.opts (by omega) (fun o ho => by have := hod o ho; omega) h4.data (by omega) fun st ot sd' w5 u5 hs5 os5 oo5 hpw hof hd5 od5 ds5 dos5 => ⟨_, _, _, _, _, _, _, _, _, rfl, kp u5, ?_⟩
  have v5 := v4.then u5
  intro b7 bd bf br bk lk w6 u6 hr8 of8 hr9 of9 hr10 of10 hr11 of11 hr12 of12
  have v6 := v5.then u6
  have n7 := u6.new (b := b7) (by simp)
  have nd := u6.new (b := bd) (by simp)
  have nf := u6.new (b := bf) (by simp)
  have nr := u6.new (b := br) (by simp)
  have nk := u6.new (b := bk) (by simp)
  have nl := u6.new (b := lk) (by simp)
  have y1 := u1.size; have y2 := u2.size; have y3 := u3.size; have y4 := u4.size; have y5 := u5.size; have y6 := u6.size
  unfold Off at of8 of9 of10 of11 of12
  simp only [List.mem_cons, List.not_mem_nil, or_false, not_or] at of8 of9 of10 of11 of12
  have bsu := osu.blk
  have bst := os5.blk
  have bsd := od5.blk
  have hL5 : Lst w4.heap.size w5 st t.opts ot := ⟨hs5, os5, oo5, fun i j hi hj hne => by
    rcases Nat.lt_or_gt_of_ne hne with h | h
    · exact List.pairwise_iff_getElem.1 hpw i j hi hj h
    · intro b hb hb2
      exact List.pairwise_iff_getElem.1 hpw j i hj hi h b hb2 hb, hof⟩
  have hLlt := hL5.lt
  have dl5 : ∀ x ∈ sd'.blk, x ∉ lstB st ot := fun x hx hm => by
    rcases lstB_mem.1 hm with q | ⟨y, hy, q⟩
    · exact ds5 x hx q
    · exact dos5 y hy x hx q
  -- the colours at first
  let c0 : Nat → Nat := fun x => if x ∈ su.blk then 1 else if x ∈ lstB st ot then 2 else if x ∈ sd'.blk then 3 else if x = bd then 4 else if x = bf then 5 else if x = br then 6 else if x = bk then 7 else if x = lk then 8 else 0
  have q1 : Col c0 1 su.blk := fun x hx => by simp only [c0]; rw [if_pos hx]
  have q2 : Col c0 2 (lstB st ot) := fun x hx => by
    have := hLlt x hx
    simp only [c0]
    rw [if_neg (fun hm => by have := bsu x hm; omega), if_pos hx]
  have q3 : Col c0 3 sd'.blk := fun x hx => by
    have := bsd x hx
    simp only [c0]
    rw [if_neg (fun hm => by have := bsu x hm; omega), if_neg (dl5 x hx), if_pos hx]
  have col : ∀ x, (x < w2.heap.size ∨ (w3.heap.size ≤ x ∧ x < w4.heap.size) ∨ w5.heap.size ≤ x) → c0 x = if x = bd then 4 else if x = bf then 5 else if x = br then 6 else if x = bk then 7 else if x = lk then 8 else 0 := fun x hx => by
    simp only [c0]
    rw [if_neg (fun hm => by have := bsu x hm; omega), if_neg (fun hm => by have := hLlt x hm; omega), if_neg (fun hm => by have := bsd x hm; omega)]
  have Bs6 : Bs w.heap.size w6 c0 bk lk su st sd' ot u.data t.opts t.data 0 0 := ⟨((hsu.old u4).old u5).old u6, (((osu.old u4).old u5).old u6).mono (by omega), (hL5.old u6).mono (by omega), hd5.old u6, (od5.old u6).mono (by omega),
    ⟨0, [bk], BkAt.start hr11, by omega, fun x hx => by
      rw [List.mem_singleton] at hx
      subst hx
      rw [col x (by omega), if_neg (by omega), if_neg (by omega), if_neg (by omega), if_pos rfl]⟩,
    ⟨0, [lk], LkAt.start hr12, by omega, fun x hx => by
      rw [List.mem_singleton] at hx
      subst hx
      rw [col x (by omega), if_neg (by omega), if_neg (by omega), if_neg (by omega), if_neg (by omega), if_pos rfl]⟩, by omega, by omega, q1, q2, q3⟩
  have hx8 : Bx w6 bd [.sl ⟨none, 0, 0⟩, .int 0] := Bx.mk' hr8 rfl
  have hx9 : Bx w6 bf [.sl ⟨none, 0, 0⟩, .int 0] := Bx.mk' hr9 rfl
  have Dr6 : Dr w.heap.size w6 c0 bd bf br := ⟨⟨⟨none, 0, 0⟩, ⟨⟨0, hx8⟩, ⟨[], Sees.nil _ _ _ _, by simp⟩, Own.none _ _ _, by simp [Sl.blk], by omega⟩, fun x hx => by
      have hx : x = bd := by simpa [dqB, Sl.blk] using hx
      subst hx
      rw [col x (by omega), if_pos rfl]⟩,
    ⟨⟨none, 0, 0⟩, ⟨⟨0, hx9⟩, ⟨[], Sees.nil _ _ _ _, by simp⟩, Own.none _ _ _, by simp [Sl.blk], by omega⟩, fun x hx => by
      have hx : x = bf := by simpa [dqB, Sl.blk] using hx
      subst hx
      rw [col x (by omega), if_neg (by omega), if_pos rfl]⟩,
    ⟨[br], RmAt.start hr10 (by omega), fun x hx => by
      rw [List.mem_singleton] at hx
      subst hx
      rw [col x (by omega), if_neg (by omega), if_neg (by omega), if_pos rfl]⟩⟩
  have Cb6 : Col c0 0 [b0, b1, b2, b3, b6, b7] := fun x hx => by
    simp only [List.mem_cons, List.not_mem_nil, or_false] at hx
    have : x < w2.heap.size ∨ (w3.heap.size ≤ x ∧ x < w4.heap.size) ∨ w5.heap.size ≤ x := by omega
    rw [col x this, if_neg (by omega), if_neg (by omega), if_neg (by omega), if_neg (by omega), if_neg (by omega)]
  have lb6 : ∀ x ∈ [b0, b1, b2, b3, b6, b7], x < w6.heap.size := by simp; omega
  refine ⟨fun n w' => ∃ (q : Nat) (c : Nat → Nat) (ul : List Int) (l : List Opt) (tl : List Int), n = q ∧ q ≤ 12 ∧ Upd [] [] w w' ∧ Bs w.heap.size w' c bk lk su st sd' ot ul l tl (q * (2 * (3 + t.opts.length))) (2 * q) ∧ Dr w.heap.size w' c bd bf br ∧ Col c 0 [b0, b1, b2, b3, b6, b7] ∧ (∀ x ∈ [b0, b1, b2, b3, b6, b7], x < w'.heap.size) ∧ ul.length = u.data.length ∧ frm l = frm t.opts ∧ tl.length = t.data.length ∧ Byt ul ∧ (∀ o ∈ l, Byt o.data) ∧ Byt tl, fun n _ => (12 - n).toNat,
    ⟨0, c0, u.data, t.opts, t.data, rfl, by omega, v6, by simpa using Bs6, Dr6, Cb6, lb6, rfl, rfl, rfl, hU.fit.data, hT.fit.opts, hT.fit.data⟩, ?_⟩
  rintro n w7 ⟨q, c, ul, l, tl, rfl, hq, U7, T, Z, Cb, lb, eu, eo, et, bu, bo, bt'⟩
  clear Bs6 Dr6 Cb6 lb6 col q1 q2 q3 hx8 hx9 hr8 hr9 hr10 hr11 hr12 of8 of9 of10 of11 of12
  clear_value c0
  clear c0
  have NN : w.heap.size ≤ w7.heap.size := U7.size
  have Qb : q * (2 * (3 + t.opts.length)) ≤ 12 * (2 * (3 + 1048576)) := Nat.mul_le_mul hq (by omega)
  intro J hJ
  have fin : Ret Tryd.prog 65 [.ptr (some ⟨bk, 0, none⟩)] w7 fun r w8 => ∃ b : Bool, r = .bool b ∧ Keeps [b0, b1, b2, b3, b6, b7] w7 w8 ∧ Br b (Ret Tryd.prog 52 [.ptr (some ⟨lk, 0, none⟩)] w8 fun r w9 => ∃ b : Bool, r = .bool b ∧ Keeps [b0, b1, b2, b3, b6, b7] w8 w9 ∧ (SV.bool b = .bool true ∧ Upd [] [] w w9)) (SV.bool false = .bool true ∧ Upd [] [] w w8) := by
    obtain ⟨n', hd, hB, hn', hcB⟩ := T.book
    obtain ⟨n2, hd2, hK, hn2, hc2⟩ := T.lists
    refine hB.settle (by omega) NN fun w8 u8 => ⟨_, rfl, kpm u8 lb (fun x hx hm => Cb.off hcB (by decide) x hx hm), brt rfl ?_⟩
    have z8 := u8.size
    have lt2 := hK.lt T.le2
    refine (hK.upd u8 (hc2.off hcB (by decide))).settle (by omega) (by omega) fun w9 u9 => ⟨_, rfl, kpm u9 (fun x hx => by have := lb x hx; omega) (fun x hx hm => Cb.off hc2 (by decide) x hx hm), rfl, (U7.step0 u8 (fun x hx => (hB.lt T.le x hx).1)).step0 u9 (fun x hx => (lt2 x hx).1)⟩
  refine brd (fun h1 => brd (fun h2 => ?_) (fun _ => fin)) (fun _ => fin)
  (repeat refine And.intro rfl ?_)
  refine hJ _ ?_
  clear hJ fin
  intro J2 hJ2
  have next : ∀ (w' : World) (c' : Nat → Nat) (ul2 : List Int) (l2 : List Opt) (tl2 : List Int), Upd [] [] w w' → Bs w.heap.size w' c' bk lk su st sd' ot ul2 l2 tl2 (q * (2 * (3 + t.opts.length)) + 2 * (3 + t.opts.length)) (2 * q + 2) → Dr w.heap.size w' c' bd bf br → Col c' 0 [b0, b1, b2, b3, b6, b7] → (∀ x ∈ [b0, b1, b2, b3, b6, b7], x < w'.heap.size) → ul2.length = ul.length → frm l2 = frm l → tl2.length = tl.length → Byt ul2 → (∀ o ∈ l2, Byt o.data) → Byt tl2 → J2 w' := by
    intro w' c' ul2 l2 tl2 a1 a2 a3 a4 a5 a6 a7 a8 a9 a10 a11
    refine hJ2 _ ?_
    (repeat refine And.intro rfl ?_)
    refine ⟨⟨q + 1, c', ul2, l2, tl2, wr_succ (by omega), by omega, a1, ?_, a3, a4, a5, a6.trans eu, a7.trans eo, a8.trans et, a9, a10, a11⟩, by rw [wr_succ (by omega)]; (try dsimp only); omega⟩
    rw [Nat.succ_mul]
    exact a2
  clear hJ2
  intro b13 w8 u8
  have n13 := u8.new (b := b13) (by simp)
  have z8 := u8.size
  have s8 := Same.rc c w7.heap.size 0
  have B8 := T.gen u8 (by simp) s8
  have Z8 := Z.gen u8 (by simp) s8
  have L8 : Col (rc c w7.heap.size 0) 0 [b0, b1, b2, b3, b6, b7, b13] := fun x hx => by
    unfold rc
    split
    · rename_i hlt
      refine Cb x ?_
      simp only [List.mem_cons, List.not_mem_nil, or_false] at hx ⊢
      omega
    · rfl
  have lb8 : ∀ x ∈ [b0, b1, b2, b3, b6, b7, b13], x < w8.heap.size := fun x hx => by
    simp only [List.mem_cons, List.not_mem_nil, or_false] at hx
    by_cases hb : x = b13
    · omega
    · have := lb x (by simp only [List.mem_cons, List.not_mem_nil, or_false]; omega)
      omega
  generalize rc c w7.heap.size 0 = c8 at *
  clear T Z Cb s8
  have odl := frm_le eo hod
  have ool := frm_len eo
  have U8 := U7.then u8
  obtain ⟨room, a1, a2⟩ := Z8.desk
  obtain ⟨roomf, e1, e2⟩ := Z8.desk2
  obtain ⟨hd1, r1, r2⟩ := Z8.rm
  clear Z8
  have a1lt := a1.lt
  have e1lt := e1.lt
  have r1lt := r1.lt.2
  -- the first desk
  refine a1.lend B8.du (by omega) (fun x hx => ⟨(B8.ou.blk x hx).2, B8.cu.off a2 (by decide) x hx⟩) fun room' K w9 u9 hDk hK nD => ⟨_, rfl, kpm u9 lb8 (L8.off a2 (by decide)), fun b14 w10 u10 => ?_⟩
  have eln : Int.toNat (su.len : Int) = ul.length := by rw [Int.toNat_natCast]; exact B8.du.len
  rw [eln]
  have n14 := u10.new (b := b14) (by simp)
  have z9 := u9.size; have z10 := u10.size
  have U9 := U8.step0 u9 (fun x hx => (a1lt x hx).1)
  have s9 := Same.rc c8 w8.heap.size 4
  have B9 := B8.gen u9 (fun x hx => by have := a2 x hx; omega) s9
  have L9 := L8.same s9 (by decide) lb8
  have a9 : Col (rc c8 w8.heap.size 4) 4 (dqB (bd, room')) := a2.new nD
  have D9 := Dq.ofDsk hDk hK a1.le
  have D9lt := D9.lt
  have e9 := e1.upd u9 (e2.off a2 (by decide))
  have e29 := e2.same s9 (by decide) (fun x hx => (e1lt x hx).2)
  have r9 := r1.upd u9 (r2.off a2 (by decide))
  have r29 := r2.same s9 (by decide) (fun x hx => (r1lt x hx).2)
  generalize rc c8 w8.heap.size 4 = c9 at *
  clear s9 B8 L8 a2 e1 e2 r1 r2 nD
  -- the box b13 is written, b14 is new
  have C13 : c9 b13 = 0 := L9 b13 (by simp)
  have h13 : ∀ {j : Nat} {S : List Nat}, Col c9 j S → j ≠ 0 → ∀ x ∈ S, x ∉ [b13] := fun hS hj x hx hm => by
    rw [List.mem_singleton] at hm; subst hm; exact hj ((hS _ hx).symm.trans C13)
  have s10 := Same.rc c9 w9.heap.size 0
  have U10 := U9.step0 u10 (fun x hx => by rw [List.mem_singleton] at hx; omega)
  have B10 := B9.gen u10 (fun x hx => by rw [List.mem_singleton] at hx; subst hx; rw [C13]; omega) s10
  have D10 := hDk.upd u10 (h13 a9 (by decide) _ (by simp [dqB])) (fun x hx => h13 a9 (by decide) x (by simp [dqB, hx]))
  have a10 := a9.same s10 (by decide) (fun x hx => (D9lt x hx).2)
  have e10 := e9.upd u10 (h13 e29 (by decide))
  have e210 := e29.same s10 (by decide) (fun x hx => (e9.lt x hx).2)
  have r10 := r9.upd u10 (h13 r29 (by decide))
  have r210 := r29.same s10 (by decide) (fun x hx => (r9.lt.2 x hx).2)
  have L10 : Col (rc c9 w9.heap.size 0) 0 [b0, b1, b2, b3, b6, b7, b13, b14] := fun x hx => by
    unfold rc
    split
    · rename_i hlt
      refine L9 x ?_
      simp only [List.mem_cons, List.not_mem_nil, or_false] at hx ⊢
      omega
    · rfl
  have lb10 : ∀ x ∈ [b0, b1, b2, b3, b6, b7, b13, b14], x < w10.heap.size := fun x hx => by
    simp only [List.mem_cons, List.not_mem_nil, or_false] at hx
    by_cases hb : x = b14
    · omega
    · have := lb8 x (by simp only [List.mem_cons, List.not_mem_nil, or_false]; omega)
      omega
  have D10lt := (Dq.ofDsk D10 hK a1.le).lt
  generalize rc c9 w9.heap.size 0 = c10 at *
  clear s10 B9 L9 a9 e9 e29 r9 r29 h13 C13 hDk D9
  -- the second desk
  refine e10.lend B10.dt (by omega) (fun x hx => ⟨(B10.od.blk x hx).2, B10.cd.off e210 (by decide) x hx⟩) fun roomf' K2 w11 u11 hDf hK2 nF => ⟨_, rfl, kpm u11 lb10 (L10.off e210 (by decide)), fun w12 u12 => ?_⟩
  have elf : Int.toNat (sd'.len : Int) = tl.length := by rw [Int.toNat_natCast]; exact B10.dt.len
  rw [elf]
  have z11 := u11.size; have z12 := u12.size
  have e10lt := e10.lt
  have U11 := U10.step0 u11 (fun x hx => (e10lt x hx).1)
  have s11 := Same.rc c10 w10.heap.size 5
  have B11 := B10.gen u11 (fun x hx => by have := e210 x hx; omega) s11
  have L11 := L10.same s11 (by decide) lb10
  have D11 := D10.upd u11 (a10.off e210 (by decide) _ (by simp [dqB])) (fun x hx => a10.off e210 (by decide) x (by simp [dqB, hx]))
  have a11 := a10.same s11 (by decide) (fun x hx => (D10lt x hx).2)
  have e11 : Col (rc c10 w10.heap.size 5) 5 (dqB (bf, roomf')) := e210.new nF
  have r11 := r10.upd u11 (r210.off e210 (by decide))
  have r211 := r210.same s11 (by decide) (fun x hx => (r10.lt.2 x hx).2)
  have F11lt := (Dq.ofDsk hDf hK2 e10.le).lt
  have hbf := e10.le
  generalize rc c10 w10.heap.size 5 = c11 at *
  clear s11 B10 L10 a10 e210 r10 r210 nF D10
  have C14 : c11 b14 = 0 := L11 b14 (by simp)
  have h14 : ∀ {j : Nat} {S : List Nat}, Col c11 j S → j ≠ 0 → ∀ x ∈ S, x ∉ [b14] := fun hS hj x hx hm => by
    rw [List.mem_singleton] at hm; subst hm; exact hj ((hS _ hx).symm.trans C14)
  have U12 := U11.step0 u12 (fun x hx => by rw [List.mem_singleton] at hx; omega)
  have B12 := B11.gen u12 (fun x hx => by rw [List.mem_singleton] at hx; subst hx; rw [C14]; omega) (.refl _ _)
  have D12 := D11.upd u12 (h14 a11 (by decide) _ (by simp [dqB])) (fun x hx => h14 a11 (by decide) x (by simp [dqB, hx]))
  have F12 := hDf.upd u12 (h14 e11 (by decide) _ (by simp [dqB])) (fun x hx => h14 e11 (by decide) x (by simp [dqB, hx]))
  have r12 := r11.upd u12 (h14 r211 (by decide))
  have lb12 : ∀ x ∈ [b0, b1, b2, b3, b6, b7, b13, b14], x < w12.heap.size := fun x hx => by have := lb10 x hx; omega
  clear B11 D11 hDf r11
  -- the rooms
  refine c53 r12 B12.lst.opts (fun x hx => ?_) (by omega) (fun o ho => by have := odl o ho; omega) fun p1 o1 hd1' w13 u13 hLd nw => ⟨_, rfl, kpm u13 lb12 (L11.off r211 (by decide)), ?_⟩
  · have hx : x ∈ lstB st ot := lstB_mem.2 hx
    exact ⟨(B12.lst.lt x hx).2, B12.cl.off r211 (by decide) x hx⟩
  have z13 := u13.size
  have r12lt := r12.lt.2
  have U13 := U12.step0 u13 (fun x hx => (r12lt x hx).1)
  have s13 := Same.rc c11 w12.heap.size 6
  have B13 := B12.gen u13 (fun x hx => by have := r211 x hx; omega) s13
  have L13 := L11.same s13 (by decide) lb12
  have N13 : Ln w.heap.size w13 (rc c11 w12.heap.size 6) bd bf br ul tl l K K2 room' roomf' p1 o1 := ⟨D12.upd u13 (a11.off r211 (by decide) _ (by simp [dqB])) (fun x hx => a11.off r211 (by decide) x (by simp [dqB, hx])), F12.upd u13 (e11.off r211 (by decide) _ (by simp [dqB])) (fun x hx => e11.off r211 (by decide) x (by simp [dqB, hx])),
    ⟨hd1', hLd, r211.new nw⟩, a11.same s13 (by decide) (fun x hx => by have := D10lt x hx; omega), e11.same s13 (by decide) (fun x hx => by have := F11lt x hx; omega), hK, hK2, a1.le, hbf⟩
  generalize rc c11 w12.heap.size 6 = c13 at *
  have C14' : c13 b14 = 0 := L13 b14 (by simp)
  clear s13 B12 L11 a11 e11 r12 r211 D12 F12 hLd nw C14 h14
  have lb13 : ∀ x ∈ [b0, b1, b2, b3, b6, b7, b13, b14], x < w13.heap.size := fun x hx => by have := lb12 x hx; omega
  -- twice
  refine ⟨fun n w' => ∃ (a : Nat) (c : Nat → Nat), n = a ∧ a ≤ 2 ∧ Upd [] [] w w' ∧ Bs w.heap.size w' c bk lk su st sd' ot ul l tl (q * (2 * (3 + t.opts.length)) + a * (3 + t.opts.length)) (2 * q + a) ∧ Ln w.heap.size w' c bd bf br ul tl l K K2 room' roomf' p1 o1 ∧ Col c 0 [b0, b1, b2, b3, b6, b7, b13, b14] ∧ (∀ x ∈ [b0, b1, b2, b3, b6, b7, b13, b14], x < w'.heap.size), fun n _ => (2 - n).toNat,
    fun w14 u14 => ⟨0, c13, rfl, by omega, U13.step0 u14 (fun x hx => by rw [List.mem_singleton] at hx; omega), by
      simpa using B13.gen u14 (fun x hx => by rw [List.mem_singleton] at hx; subst hx; rw [C14']; omega) (.refl _ _), N13.gen u14 (fun x hx => by rw [List.mem_singleton] at hx; subst hx; rw [C14']; omega) (.refl _ _), L13, fun x hx => by have := lb13 x hx; have := u14.size; omega⟩, ?_⟩
  clear B13 N13 L13 C14'
  rintro n w14 ⟨a, c, rfl, ha, U14, T, Z, Cb, lb14⟩
  have Ab : a * (3 + t.opts.length) ≤ 2 * (3 + 1048576) := Nat.mul_le_mul ha (by omega)
  refine brd (fun hlt => ?_) (fun hge => ?_)
  · clear next
    intro J3 hJ3
    have hL3 : l.length = t.opts.length := ool
    have again : ∀ (w' : World) (c' : Nat → Nat), Upd [] [] w w' → Bs w.heap.size w' c' bk lk su st sd' ot ul l tl (q * (2 * (3 + t.opts.length)) + a * (3 + t.opts.length) + (3 + t.opts.length)) (2 * q + a + 1) → Ln w.heap.size w' c' bd bf br ul tl l K K2 room' roomf' p1 o1 → Col c' 0 [b0, b1, b2, b3, b6, b7, b13, b14] → (∀ x ∈ [b0, b1, b2, b3, b6, b7, b13, b14], x < w'.heap.size) → J3 w' := by
      intro w' c' a1 a2 a3 a4 a5
      refine hJ3 _ ?_
      (repeat refine And.intro rfl ?_)
      refine ⟨⟨a + 1, c', wr_succ (by omega), by omega, a1, ?_, a3, a4, a5⟩, by rw [wr_succ (by omega)]; (try dsimp only); omega⟩
      have e1 : (a + 1) * (3 + t.opts.length) = a * (3 + t.opts.length) + (3 + t.opts.length) := Nat.succ_mul _ _
      rw [e1, ← Nat.add_assoc]
      exact a2
    clear hJ3
    have G14 := hg.old U14
    have fu : UFit { u with data := ul } := ⟨bu⟩
    have ft : TFit { t with opts := l, data := tl } := ⟨bo, bt'⟩
    have hul : ul.length ≤ 140737488351232 := by omega
    have htl : tl.length ≤ 140737488351232 := by omega
    have hll : l.length ≤ 1048576 := by omega
    obtain ⟨hdr, ldr, cdr⟩ := Z.laid
    have hu14 : HandU w14 { u with data := ul } (room'.sub 1 0 ul.length room'.cap) := ⟨Z.desk.lent rfl, hul, fu, by have := Z.desk.own.le; have := Z.desk.len; have := Z.desk.le; simp [Sl.sub]; omega⟩
    have ht14 : HandT w14 { t with opts := l, data := tl } p1 (roomf'.sub 1 0 tl.length roomf'.cap) o1 := ⟨ldr.opts.1, by show l.length ≤ _; omega, fun o ho => by have := odl o ho; omega, Z.desk2.lent rfl, htl, ft, by have := Z.desk2.own.le; have := Z.desk2.len; have := Z.desk2.le; simp [Sl.sub]; omega, ldr.opts.2.1, ldr.opts.2.2.1⟩
    refine c19 (e := e) (u := { u with data := ul }) G14 o fu hu14.data fun ra w15 u15 ha15 oa15 => ⟨_, _, rfl, kp u15, ?_⟩
    refine c26H (e := e) (t := { t with opts := l, data := tl }) (G14.old u15) o (ht14.old u15) fun rb w16 u16 hb16 ob16 => ⟨_, _, rfl, kp u16, ?_⟩
    have x16 := u15.then u16
    refine c39 (G14.l.old x16) (ht14.old x16).opts (by show l.length < _; omega) (fun o ho => by have := odl o ho; omega) fun rcc w17 u17 hc17 oc17 => ⟨_, _, rfl, kp u17, ?_⟩
    have x17 := x16.then u17
    refine c35 (t := { t with opts := l, data := tl }) (ht14.old x17).opts bo (by show l.length ≤ _; omega) (fun o ho => by have := odl o ho; omega) fun s9 ok w18 u18 hk18 os18 ook pk fk => ⟨_, _, _, _, _, _, _, _, _, rfl, kp u18, ?_⟩
    have x18 := x17.then u18
    intro b15 w19 u19
    have n15 := u19.new (b := b15) (by simp)
    have x19 := x18.then u19
    refine c36 (t := { t with opts := l, data := tl }) (ht14.old x19).opts bo (by show l.length < _; omega) fun w20 u20 => ⟨_, _, rfl, kp u20, fun w21 u21 => ?_⟩
    have x21 := (x19.then u20).then u21
    refine c37 (u := { u with data := ul }) (T.old x21).du (by show ul.length ≤ _; omega) fun r22 w22 u22 h22 _ => ⟨_, _, _, _, rfl, kp u22, u21.then u22, ?_⟩
    have x22 := x21.then u22
    refine c54 (e := e) (u := { u with data := ul }) o fu h22 (by show ul.length ≤ _; omega) fun ra2 w23 u23 ha23 _ => ⟨_, _, rfl, kp u23, fun w24 u24 => ?_⟩
    have x24 := (x22.then u23).then u24
    have B24 := T.old x24
    refine c38 (t := { t with opts := l, data := tl }) B24.lst.opts (by show l.length ≤ _; omega) (fun o ho => by have := odl o ho; omega) B24.dt (by show tl.length ≤ _; omega) fun s25 o25 d25 w25 u25 hO25 _ _ _ _ hD25 _ _ _ => ⟨_, _, _, _, _, _, _, _, _, rfl, kp u25, u24.then u25, ?_⟩
    refine c55 (e := e) (t := { t with opts := l, data := tl }) o ft hO25 (by show l.length ≤ _; omega) (fun o ho => by have := odl o ho; omega) hD25 (by show tl.length ≤ _; omega) fun rb2 w26 u26 hb26 _ => ⟨_, _, rfl, kp u26, ?_⟩
    have x26 := (x24.then u25).then u26
    have B26 := T.old x26
    refine c38 (t := { t with opts := l, data := tl }) B26.lst.opts (by show l.length ≤ _; omega) (fun o ho => by have := odl o ho; omega) B26.dt (by show tl.length ≤ _; omega) fun s27 o27 d27 w27 u27 hO27 _ _ _ _ hD27 _ _ _ => ⟨_, _, _, _, _, _, _, _, _, rfl, kp u27, ?_⟩
    refine c56 hO27 (by show l.length ≤ _; omega) (fun o ho => by have := odl o ho; omega) fun rc2 w28 u28 hc28 _ => ⟨_, _, rfl, kp u28, ?_⟩
    have x28 := (x26.then u27).then u28
    have B28 := T.old x28
    refine c38 (t := { t with opts := l, data := tl }) B28.lst.opts (by show l.length ≤ _; omega) (fun o ho => by have := odl o ho; omega) B28.dt (by show tl.length ≤ _; omega) fun s29 o29 d29 w29 u29 hO29 _ _ _ _ hD29 _ _ _ => ⟨_, _, _, _, _, _, _, _, _, rfl, kp u29, ?_⟩
    refine c57 (t := { t with opts := l, data := tl }) hO29 bo (by show l.length ≤ _; omega) (fun o ho => by have := odl o ho; omega) hD29 (by show tl.length ≤ _; omega) hm fun s30 o30 d30 w30 u30 hO30 _ _ hD30 _ => ⟨_, _, _, _, _, _, _, _, _, rfl, kp u30, ?_⟩
    have x30 := (x28.then u29).then u30
    intro b18 w31 u31
    have n18 := u31.new (b := b18) (by simp)
    have x31 := x30.then u31
    refine c58 (t := { t with opts := l, data := tl }) (T.old x31).lst.opts bo (by show l.length < _; omega) fun w32 u32 => ⟨_, _, rfl, kp u32, ?_⟩
    have x32 := x31.then u32
    have t2832 : Upd [] [] w28 w32 := ((u29.then u30).then u31).then u32
    have t2632 : Upd [] [] w26 w32 := (u27.then u28).then t2832
    have t2332 : Upd [] [] w23 w32 := ((u24.then u25).then u26).then t2632
    have t1832 : Upd [] [] w18 w32 := (((u19.forget.then u20).then u21).then (u22.then u23)).then t2332
    have t1732 : Upd [] [] w17 w32 := u18.then t1832
    have t1632 : Upd [] [] w16 w32 := u17.then t1732
    have t1532 : Upd [] [] w15 w32 := u16.then t1632
    have t3032 : Upd [] [] w30 w32 := u31.forget.then u32
    intro J4 hJ4
    have sa := udSerL_byt (e := e) fu
    have sb := tcSerL_byt (e := e) ft
    have sc := putL9_bytL bo
    have hcb : ∀ o ∈ (clampT { t with opts := l, data := tl } most).opts, Byt o.data := fun o ho => by
      obtain ⟨x, hx, rfl⟩ := List.mem_map.1 ho
      exact clampO_byt (bo x hx)
    have hcl : (clampT { t with opts := l, data := tl } most).opts.length = l.length := by show (l.map _).length = _; simp
    have hcd : ∀ o ∈ (clampT { t with opts := l, data := tl } most).opts, o.data.length ≤ 1048576 := fun o ho => by
      obtain ⟨x, hx, rfl⟩ := List.mem_map.1 ho
      rw [clampO_len.1]; exact odl x hx
    refine c20 ⟨_, rfl, kp (Upd.refl _), brf (by simp) ?_⟩
    refine c20 ⟨_, rfl, kp (Upd.refl _), brf (by simp) ?_⟩
    refine c20 ⟨_, rfl, kp (Upd.refl _), brf (by simp) ?_⟩
    refine c30 (ha15.old t1532) (ha23.old t2332) sa sa ⟨_, rfl, kp (Upd.refl _), brf (by simp) ?_⟩
    refine c30 (hb16.old t1632) (hb26.old t2632) sb sb ⟨_, rfl, kp (Upd.refl _), brf (by simp) ?_⟩
    refine c30 (hc17.old t1732) (hc28.old t2832) sc sc ⟨_, rfl, kp (Upd.refl _), brf (by simp) ?_⟩
    refine brf (by simp) (brf (by simp) ?_)
    refine c28T (t := clampT { t with opts := l, data := tl } most) (hk18.old t1832) (hO30.old t3032) hcb (by omega) ((ht14.old x32).data) (hD30.old t3032) bt' fun w33 u33 => ⟨_, rfl, kp u33, brf rfl ?_⟩
    (repeat refine And.intro rfl ?_)
    refine hJ4 _ ?_
    clear hJ4
    have x33 := x32.then u33
    intro J5 hJ5 w34 u34
    have x34 := x33.then u34
    refine c25H (u := { u with data := ul }) (hu14.old x34) fun w35 u35 => ⟨_, rfl, kp u35, u34.then u35, ?_⟩
    have x35 := x34.then u35
    refine c20 ⟨_, rfl, kp (Upd.refl _), u34.then u35, ?_⟩
    refine c59 (u := { u with data := ul }) (T.old x35).du.len (by show ul.length ≤ _; omega) fun w36 u36 => ⟨_, rfl, kp u36, (u34.then u35).then u36, brf (by simp) ?_⟩
    have x36 := x35.then u36
    refine c29H (t := { t with opts := l, data := tl }) (G14.old x36) (ht14.old x36) fun w37 u37 => ⟨_, rfl, kp u37, ((u34.then u35).then u36).then u37, ?_⟩
    have x37 := x36.then u37
    refine c20 ⟨_, rfl, kp (Upd.refl _), ((u34.then u35).then u36).then u37, ?_⟩
    have B37 := T.old x37
    refine c60 (t := { t with opts := l, data := tl }) B37.lst.opts (by show l.length ≤ _; omega) (fun o ho => by have := odl o ho; omega) B37.dt.len (by show tl.length ≤ _; omega) fun w38 u38 => ⟨_, rfl, kp u38, brf (by simp) ?_⟩
    have x38 := x37.then u38
    (repeat refine And.intro rfl ?_)
    refine hJ5 _ ?_
    clear hJ5
    have z15 := u15.size; have z16 := u16.size; have z17 := u17.size; have z18 := u18.size; have z19 := u19.size; have z1832 := t1832.size; have z3032 := t3032.size; have z31 := u31.size; have z32 := u32.size; have NN14 := U14.size
    have tx : Upd [] [] w32 w38 := ((((u33.then u34).then u35).then u36).then u37).then u38
    have z38 := tx.size
    have z1930 : w19.heap.size ≤ w30.heap.size := ((((((((((((u20.then u21).then u22).then u23).then u24).then u25).then u26).then u27).then u28).then u29).then u30)).size)
    have ba := oa15.blk; have bb := ob16.blk; have bc := oc17.blk; have bs9 := os18.blk
    have bok : ∀ x ∈ ok, ∀ z ∈ x.2.blk, w17.heap.size ≤ z ∧ z < w18.heap.size := fun x hx z hz => (ook x hx).blk z hz
    let c38 : Nat → Nat := fun x => if x < w14.heap.size then c x else if x ∈ ra.blk then 9 else if x ∈ rb.blk then 10 else if x ∈ rcc.blk then 11 else if x ∈ s9.blk then 12 else if x = b15 then 0 else if x = b18 then 0 else 13
    have sm : Same c c38 w14.heap.size := fun x hx _ => by simp only [c38]; rw [if_pos hx]
    have L38 : Col c38 0 [b0, b1, b2, b3, b6, b7, b13, b14, b15, b18] := fun x hx => by
      by_cases hlt : x < w14.heap.size
      · simp only [c38]
        rw [if_pos hlt]
        refine Cb x ?_
        simp only [List.mem_cons, List.not_mem_nil, or_false] at hx ⊢
        omega
      · have e : x = b15 ∨ x = b18 := by
          by_cases h : x ∈ [b0, b1, b2, b3, b6, b7, b13, b14]
          · exact absurd (lb14 x h) hlt
          · simp only [List.mem_cons, List.not_mem_nil, or_false] at hx h
            omega
        simp only [c38]
        rw [if_neg hlt, if_neg (fun hm => by have := ba x hm; omega), if_neg (fun hm => by have := bb x hm; omega), if_neg (fun hm => by have := bc x hm; omega), if_neg (fun hm => by have := bs9 x hm; omega)]
        rcases e with e | e
        · rw [if_pos e]
        · by_cases h : x = b15
          · rw [if_pos h]
          · rw [if_neg h, if_pos e]
    have lb38 : ∀ x ∈ [b0, b1, b2, b3, b6, b7, b13, b14, b15, b18], x < w38.heap.size := fun x hx => by
      by_cases h : x ∈ [b0, b1, b2, b3, b6, b7, b13, b14]
      · have := lb14 x h; omega
      · simp only [List.mem_cons, List.not_mem_nil, or_false] at hx h
        omega
    have Ca : Col c38 9 ra.blk := fun x hx => by
      have := ba x hx
      simp only [c38]
      rw [if_neg (by omega), if_pos hx]
    have Cb2 : Col c38 10 rb.blk := fun x hx => by
      have := bb x hx
      simp only [c38]
      rw [if_neg (by omega), if_neg (fun hm => by have := ba x hm; omega), if_pos hx]
    have Cc : Col c38 11 rcc.blk := fun x hx => by
      have := bc x hx
      simp only [c38]
      rw [if_neg (by omega), if_neg (fun hm => by have := ba x hm; omega), if_neg (fun hm => by have := bb x hm; omega), if_pos hx]
    have Cs : Col c38 12 s9.blk := fun x hx => by
      have := bs9 x hx
      simp only [c38]
      rw [if_neg (by omega), if_neg (fun hm => by have := ba x hm; omega), if_neg (fun hm => by have := bb x hm; omega), if_neg (fun hm => by have := bc x hm; omega), if_pos hx]
    have Ck : ∀ j (h : j < ok.length), Col c38 13 ok[j].2.blk := fun j h x hx => by
      have := bok _ (List.getElem_mem h) x hx
      have f := fk _ (List.getElem_mem h) x hx
      simp only [c38]
      rw [if_neg (by omega), if_neg (fun hm => by have := ba x hm; omega), if_neg (fun hm => by have := bb x hm; omega), if_neg (fun hm => by have := bc x hm; omega), if_neg f, if_neg (by omega), if_neg (by omega)]
    have B38 := T.gen x38 (by simp) sm
    have Z38 := Z.gen x38 (by simp) sm
    have U38 := U14.then x38
    have Ka : Kp cU8 w.heap.size w38 c38 9 ra _ := ⟨ha15.old (t1532.then tx), (oa15.old (t1532.then tx)).mono (by omega), Ca⟩
    have Kb : Kp cU8 w.heap.size w38 c38 10 rb _ := ⟨hb16.old (t1632.then tx), (ob16.old (t1632.then tx)).mono (by omega), Cb2⟩
    have Kc : Kp cU8 w.heap.size w38 c38 11 rcc _ := ⟨hc17.old (t1732.then tx), (oc17.old (t1732.then tx)).mono (by omega), Cc⟩
    have Ks : Kp cOpt w.heap.size w38 c38 12 s9 ok := ⟨(hk18.old (t1832.then tx)).row, (os18.old (t1832.then tx)).mono (by omega), Cs⟩
    have hokl : ok.length = l.length := by rw [hk18.len]; exact hcl
    have Kk : ∀ j (h : j < ok.length), 0 ≤ j → Kp cU8 w.heap.size w38 c38 13 ok[j].2 ((clampT { t with opts := l, data := tl } most).opts[j]'(by omega)).data := fun j h _ =>
      ⟨(hk18.old (t1832.then tx)).each j (by omega), ((ook _ (List.getElem_mem h)).old (t1832.then tx)).mono (by omega), Ck j h⟩
    have dk : ∀ i j (hi : i < ok.length) (hj : j < ok.length), i ≠ j → ∀ b ∈ ok[i].2.blk, b ∉ ok[j].2.blk := fun i j hi hj hne => by
      rcases Nat.lt_or_gt_of_ne hne with h | h
      · exact List.pairwise_iff_getElem.1 pk i j hi hj h
      · intro b hb hb2
        exact List.pairwise_iff_getElem.1 pk j i hj hi h b hb2 hb
    have fk2 : ∀ j (h : j < ok.length), ∀ b ∈ ok[j].2.blk, b ∉ s9.blk := fun j h => fk _ (List.getElem_mem h)
    have la := udSerL_len e { u with data := ul }
    have lb' := tcSerL_len e { t with opts := l, data := tl }
    have lc := putL9_len l
    have dm : ∀ {hd : List Nat} {c : Nat → Nat} {N z : Nat}, (∀ x ∈ hd, c x = 7 ∧ N ≤ x ∧ x < z) → ∀ x ∈ hd, c x ≤ 8 := fun h x hx => by have := (h x hx).1; omega
    have n7 : ∀ {w' : World} {hd : List Nat} {c : Nat → Nat} {S : List Nat}, (∀ x ∈ hd, c x = 7 ∧ w.heap.size ≤ x ∧ x < w'.heap.size) → Col c 0 S → ∀ x ∈ S, x ∉ hd := fun hh hc x hx hm => by have := hc x hx; have := (hh x hm).1; omega
    clear_value c38
    clear Ca Cb2 Cc Cs Ck sm T Z Cb B24 B26 B28 B37 ba bb bc bs9 bok fk pk ha15 ha23 hb16 hb26 hc17 hc28 hO25 hO27 hO29 hO30 hD25 hD27 hD29 hD30 h22
    clear hu14 ht14 G14
    generalize hgu : udSerL e { u with data := ul } = La at *
    generalize hgt : tcSerL e { t with opts := l, data := tl } = Lb at *
    generalize hgp : putL9 l = Lc at *
    refine B38.keep Ka.sees Ka.own Ka.col (by decide) sa (by omega) (by omega) fun w39 d39 u39 m39 B39 => ⟨rfl, kpm u39 lb38 (n7 m39 L38), ?_⟩
    have s39 := Same.kc (k := 7) Ka.col (by decide) w38.heap.size
    have z39 := u39.size
    have Z39 := Z38.gen u39 (fun x hx => by have := (m39 x hx).1; omega) s39
    have L39 := L38.same s39 (by decide) lb38
    have U39 := U38.step0 u39 (fun x hx => (m39 x hx).2.1)
    have Kb := Kb.kc (k := 7) u39 (dm m39) (by decide) (Kb.col.off Ka.col (by decide))
    have Kc := Kc.kc (k := 7) u39 (dm m39) (by decide) (Kc.col.off Ka.col (by decide))
    have Ks := Ks.kc (k := 7) u39 (dm m39) (by decide) (Ks.col.off Ka.col (by decide))
    have Kk := fun j h i => (Kk j h i).kc (k := 7) u39 (dm m39) (by decide) ((Kk j h i).col.off Ka.col (by decide))
    have lb39 : ∀ x ∈ [b0, b1, b2, b3, b6, b7, b13, b14, b15, b18], x < w39.heap.size := fun x hx => by have := lb38 x hx; omega
    generalize kc c38 w38.heap.size ra.blk 7 = c39 at *
    clear B38 Z38 L38 Ka m39 s39
    refine B39.keep Kb.sees Kb.own Kb.col (by decide) sb (by omega) (by omega) fun w40 d40 u40 m40 B40 => ⟨rfl, kpm u40 lb39 (n7 m40 L39), ?_⟩
    have s40 := Same.kc (k := 7) Kb.col (by decide) w39.heap.size
    have z40 := u40.size
    have Z40 := Z39.gen u40 (fun x hx => by have := (m40 x hx).1; omega) s40
    have L40 := L39.same s40 (by decide) lb39
    have U40 := U39.step0 u40 (fun x hx => (m40 x hx).2.1)
    have Kc := Kc.kc (k := 7) u40 (dm m40) (by decide) (Kc.col.off Kb.col (by decide))
    have Ks := Ks.kc (k := 7) u40 (dm m40) (by decide) (Ks.col.off Kb.col (by decide))
    have Kk := fun j h i => (Kk j h i).kc (k := 7) u40 (dm m40) (by decide) ((Kk j h i).col.off Kb.col (by decide))
    have lb40 : ∀ x ∈ [b0, b1, b2, b3, b6, b7, b13, b14, b15, b18], x < w40.heap.size := fun x hx => by have := lb39 x hx; omega
    generalize kc c39 w39.heap.size rb.blk 7 = c40 at *
    clear B39 Z39 L39 Kb m40 s40
    refine B40.keep Kc.sees Kc.own Kc.col (by decide) sc (by omega) (by omega) fun w41 d41 u41 m41 B41 => ⟨rfl, kpm u41 lb40 (n7 m41 L40), ?_⟩
    have s41 := Same.kc (k := 7) Kc.col (by decide) w40.heap.size
    have z41 := u41.size
    have Z41 := Z40.gen u41 (fun x hx => by have := (m41 x hx).1; omega) s41
    have L41 := L40.same s41 (by decide) lb40
    have U41 := U40.step0 u41 (fun x hx => (m41 x hx).2.1)
    have Ks := Ks.kc (k := 7) u41 (dm m41) (by decide) (Ks.col.off Kc.col (by decide))
    have Kk := fun j h i => (Kk j h i).kc (k := 7) u41 (dm m41) (by decide) ((Kk j h i).col.off Kc.col (by decide))
    have lb41 : ∀ x ∈ [b0, b1, b2, b3, b6, b7, b13, b14, b15, b18], x < w41.heap.size := fun x hx => by have := lb40 x hx; omega
    generalize kc c40 w40.heap.size rcc.blk 7 = c41 at *
    clear B40 Z40 L40 Kc m41 s41
    have s9l := Ks.sees.len
    refine ⟨fun n w' => ∃ (i : Nat) (c : Nat → Nat), n = i ∧ i ≤ ok.length ∧ Upd [] [] w w' ∧ Bs w.heap.size w' c bk lk su st sd' ot ul l tl (q * (2 * (3 + t.opts.length)) + a * (3 + t.opts.length) + 1 + 1 + 1 + i) (2 * q + a) ∧ Ln w.heap.size w' c bd bf br ul tl l K K2 room' roomf' p1 o1 ∧ Col c 0 [b0, b1, b2, b3, b6, b7, b13, b14, b15, b18] ∧ (∀ x ∈ [b0, b1, b2, b3, b6, b7, b13, b14, b15, b18], x < w'.heap.size) ∧ Kp cOpt w.heap.size w' c 12 s9 ok ∧ ∀ j (h : j < ok.length), i ≤ j → Kp cU8 w.heap.size w' c 13 ok[j].2 ((clampT { t with opts := l, data := tl } most).opts[j]'(by omega)).data, fun n _ => (ok.length - n).toNat,
      ⟨0, c41, rfl, by omega, U41, B41, Z41, L41, lb41, Ks, Kk⟩, ?_⟩
    clear Ks Kk B41 Z41 L41
    rintro n w42 ⟨i, c, rfl, hi, U42, B42, Z42, L42, lb42, Ks, Kk⟩
    refine brd (fun hlt3 => ?_) (fun hge3 => ?_)
    · have hi2 : i < ok.length := by omega
      obtain ⟨_, k2, k3⟩ := opC Ks.sees i hi2
      have Kx := Kk i hi2 (Nat.le_refl _)
      refine needIx (by omega) (by omega) k3 ⟨_, k2, ?_⟩
      have hcd' := hcd _ (List.getElem_mem (show i < (clampT { t with opts := l, data := tl } most).opts.length by omega))
      refine B42.keep Kx.sees Kx.own Kx.col (by decide) (hcb _ (List.getElem_mem _)) (by omega) (by omega) fun w43 d43 u43 m43 B43 => ⟨rfl, kpm u43 lb42 (n7 m43 L42), ?_⟩
      have s43 := Same.kc (k := 7) Kx.col (by decide) w42.heap.size
      have z43 := u43.size
      (repeat refine And.intro rfl ?_)
      refine ⟨⟨i + 1, _, wr_succ (by omega), by omega, U42.step0 u43 (fun x hx => (m43 x hx).2.1), B43, Z42.gen u43 (fun x hx => by have := (m43 x hx).1; omega) s43, L42.same s43 (by decide) lb42, fun x hx => by have := lb42 x hx; omega, Ks.kc u43 (dm m43) (by decide) (fun x hx hm => fk2 i hi2 x hm hx), fun j h hj => (Kk j h (by omega)).kc u43 (dm m43) (by decide) (dk j i h hi2 (by omega))⟩, by rw [wr_succ (by omega)]; (try dsimp only); omega⟩
    · have hie : i = ok.length := by omega
      subst hie
      refine B42.keepL Ks.sees Ks.own Ks.col (by decide) (by omega) (by omega) fun w43 d43 u43 m43 B43 => ⟨rfl, kpm u43 lb42 (fun x hx hm => by have := L42 x hx; have := (m43 x hm).1; omega), ?_⟩
      have s43 := Same.kc (k := 8) Ks.col (by decide) w42.heap.size
      have z43 := u43.size
      have Z43 := Z42.gen u43 (fun x hx => by have := (m43 x hx).1; omega) s43
      have L43 := L42.same s43 (by decide) lb42
      have lb43 : ∀ x ∈ [b0, b1, b2, b3, b6, b7, b13, b14, b15, b18], x < w43.heap.size := fun x hx => by have := lb42 x hx; omega
      have U43 := U42.step0 u43 (fun x hx => (m43 x hx).2.1)
      generalize kc c w42.heap.size s9.blk 8 = c43 at *
      refine c48T Z43.desk B43.du bu hK fun w44 u44 => ⟨_, rfl, kp u44, brf rfl ?_⟩
      refine c48T (Z43.old u44).desk2 (B43.old u44).dt bt' hK2 fun w45 u45 => ⟨_, rfl, kp u45, brf rfl ?_⟩
      have x45 := u44.then u45
      obtain ⟨hdz, ldz, _⟩ := (Z43.old x45).laid
      refine c62T ldz (B43.old x45).lst.opts bo (by omega) fun w46 u46 => ⟨_, rfl, kp u46, brf rfl ?_⟩
      have x46 := x45.then u46
      obtain ⟨nb, hdb, bkB, hnb, _⟩ := (B43.old x46).book
      refine bkB.untouched (by omega) fun w47 u47 => ⟨_, rfl, kp u47, brf rfl ?_⟩
      have x47 := x46.then u47
      obtain ⟨nl', hdl, lkB, hnl, _⟩ := (B43.old x47).lists
      refine lkB.untouched (by omega) fun w48 u48 => ⟨_, rfl, kp u48, brf rfl ?_⟩
      have x48 := x47.then u48
      have sub8 : ∀ x ∈ [b0, b1, b2, b3, b6, b7, b13, b14], x ∈ [b0, b1, b2, b3, b6, b7, b13, b14, b15, b18] := fun x hx => by
        simp only [List.mem_cons, List.not_mem_nil, or_false] at hx ⊢
        omega
      have z48 := x48.size
      (repeat refine And.intro rfl ?_)
      exact again w48 c43 (U43.then x48) (((B43.old x48)).mono (by omega) (by omega)) (Z43.old x48) (fun x hx => L43 x (sub8 x hx)) (fun x hx => by have := lb43 x (sub8 x hx); omega)
  · have ha2 : a = 2 := by omega
    subst ha2
    have Z14 := Z.dr
    have sub6 : ∀ x ∈ [b0, b1, b2, b3, b6, b7], x ∈ [b0, b1, b2, b3, b6, b7, b13, b14] := fun x hx => by
      simp only [List.mem_cons, List.not_mem_nil, or_false] at hx ⊢
      omega
    have Cb6 : Col c 0 [b0, b1, b2, b3, b6, b7] := fun x hx => Cb x (sub6 x hx)
    refine brd (fun hlt2 => ?_) (fun _ => ?_)
    · have hq2 : q < ts.length := by omega
      have hvq := hv _ (List.getElem_mem hq2)
      have cells : ∀ {w' : World}, Upd [] [] w w' → ∀ i, i < 2 → w'.cell? ((turns.at 2 (Int.toNat (q : Int))).add (0 + i)) = some (.int .i64 ((fun i => if i = 0 then ts[q].1 else ts[q].2 : Nat → Int) i)) := fun u i hi => by
        have g := (ht.old u).elem hq2
        rw [Int.toNat_natCast, Nat.zero_add]
        rcases i with _ | _ | i
        · exact g 0 (by simp [cT])
        · exact g 1 (by simp [cT])
        · omega
      have isS : ∀ {w' : World}, Upd [] [] w w' → turns.ptr.isSome = true := fun u => (ht.old u).isSome (by decide) (by omega)
      refine needIx (by omega) (by omega) (isS U14) ⟨_, cells U14, fun w15 u15 => ?_⟩
      have B15 := T.old u15
      have g15 := u15.size
      have nilL : Lst w.heap.size w15 ⟨none, 0, 0⟩ [] [] := ⟨Opts.nil _ _ _, Own.none _ _ _, by simp, by simp, by simp⟩
      have hn : ∀ x ∈ su.blk ++ lstB ⟨none, 0, 0⟩ [], x ∈ su.blk := fun x hx => by simpa [lstB, Sl.blk] using hx
      refine c64 (N := w.heap.size) B15.du B15.ou bu nilL (by simp [lstB, Sl.blk]) (by simp) hvq (by omega) (by simp) (by simp) fun w16 d3 o3 u16 hd3 od3 _ ed3 _ bd3 _ => ⟨rfl, kpm u16 (fun x hx => by have := lb14 x hx; omega) (fun x hx hm => ?_), ?_⟩
      · have := Cb x hx
        have := B15.cu x (hn x hm)
        omega
      have m16 : ∀ x ∈ su.blk ++ lstB ⟨none, 0, 0⟩ [], c x = 1 := fun x hx => B15.cu x (hn x hx)
      have g16 := u16.size
      have U16 := (U14.then u15).step0 u16 (fun x hx => (B15.ou.blk x (hn x hx)).1)
      have B16 := B15.setU u16 m16 hd3 od3
      have Z16 := (Z14.gen u15 (by simp) (.refl _ _)).gen u16 (fun x hx => by have := m16 x hx; omega) (.refl _ _)
      refine needIx (by omega) (by omega) (isS U16) ⟨_, cells U16, fun w17 u17 => ?_⟩
      have B17 := B16.old u17
      have g17 := u17.size
      refine c64 (N := w.heap.size) B17.dt B17.od bt' B17.lst (B17.cd.off B17.cl (by decide)) bo hvq (by omega) (by omega) (fun o ho => by have := odl o ho; omega) fun w18 d4 o4 u18 hd4 od4 hL4 ed4 fo4 bd4 bo4 => ⟨rfl, kpm u18 (fun x hx => by have := lb14 x hx; omega) (fun x hx hm => ?_), ?_⟩
      · have := Cb x hx
        rcases List.mem_append.1 hm with e | e
        · have := B17.cd x e; omega
        · have := B17.cl x e; omega
      have m18 : ∀ x ∈ sd'.blk ++ lstB st ot, c x = 2 ∨ c x = 3 := fun x hx => by
        rcases List.mem_append.1 hx with e | e
        · exact .inr (B17.cd x e)
        · exact .inl (B17.cl x e)
      have n18 : ∀ x ∈ sd'.blk ++ lstB st ot, w.heap.size ≤ x := fun x hx => by
        rcases List.mem_append.1 hx with e | e
        · exact (B17.od.blk x e).1
        · exact (B17.lst.lt x e).1
      have g18 := u18.size
      (repeat refine And.intro rfl ?_)
      exact next w18 c d3 o4 d4 ((U16.then u17).step0 u18 n18) (B17.setT u18 m18 hL4 hd4 od4) ((Z16.gen u17 (by simp) (.refl _ _)).gen u18 (fun x hx => by have := m18 x hx; omega) (.refl _ _)) Cb6 (fun x hx => by have := lb14 x (sub6 x hx); omega) ed3 fo4 ed4 bd3 bo4 bd4
    · (repeat refine And.intro rfl ?_)
      exact next w14 c ul l tl U14 T Z14 Cb6 (fun x hx => lb14 x (sub6 x hx)) rfl rfl rfl bu bo bt'
end
end Go.Vc.S9
end

section
set_option linter.unusedVariables false
set_option linter.unusedSimpArgs false
set_option autoImplicit false
open Go Go.Vc Go.ChangeShapes Go.WideShapes Go.ChangeAt Go.RowKit
namespace Go.Vc
section
variable {H : Type} {X : Tab} {w : World}
end
end Go.Vc
end

section
open Go Go.Vc Go.Proofs Go.ChangeShapes Go.WideShapes Go.ChangeAt Go.RowKit
set_option linter.unusedVariables false
set_option linter.unusedSimpArgs false
set_option autoImplicit false
namespace Go.Vc.S9
section
variable {H : Type} {W : World}
open Go.Proofs.YtmchllbemgnieaaDoor
theorem bulk_pos (d : DataW H) : 1 ≤ Rows.uptoBulk d := by
  cases d with
  | lit l => cases l <;> simp [Rows.uptoBulk]
  | _ => simp [Rows.uptoBulk]
theorem bulk_len : ∀ ds : List (DataW H), ds.length ≤ Rows.uptoBulkAll ds
  | [] => by simp [Rows.uptoBulkAll]
  | d :: r => by
    have := bulk_pos d
    have := bulk_len r
    simp only [Rows.uptoBulkAll, List.length_cons]
    omega
theorem bulk_at : ∀ {ds : List (DataW H)} {i : Nat} {d : DataW H}, ds[i]? = some d → Rows.uptoBulk d ≤ Rows.uptoBulkAll ds
  | [], _, _, h => by simp at h
  | x :: r, 0, d, h => by
    simp at h; subst h
    simp only [Rows.uptoBulkAll]; omega
  | x :: r, i + 1, d, h => by
    have := bulk_at (ds := r) (i := i) (d := d) (by simpa using h)
    simp only [Rows.uptoBulkAll]; omega
theorem bulk_sl {d : DataW H} {n : Nat} (h : SlLen d n) : n ≤ Rows.uptoBulk d := by
  rcases h with ⟨rfl, rfl⟩ | ⟨els, sp, rfl, rfl⟩
  · omega
  · have := bulk_len els
    simp only [Rows.uptoBulk]; omega
theorem bulk_opts {d : DataW H} {l : List Opt} (h : OptDat d l) : l.length ≤ Rows.uptoBulk d ∧ ∀ o ∈ l, o.data.length ≤ Rows.uptoBulk d := by
  rcases h with ⟨rfl, rfl⟩ | ⟨els, sp, rfl, he, hh⟩
  · simp
  · have := bulk_len els
    refine ⟨by simp only [Rows.uptoBulk]; omega, fun o ho => ?_⟩
    obtain ⟨i, hi, rfl⟩ := List.getElem_of_mem ho
    obtain ⟨dk, dd, h1, h2⟩ := hh i hi
    have a1 := bulk_at h1
    have a2 := bulk_sl h2
    simp only [Rows.uptoBulk, Rows.uptoBulkAll] at a1 ⊢
    omega
theorem deep_turn {w : World} (m : Nat) (x : SV) (d : DataW H) (h : Deep X w m (X.T 91) x d) : ∃ a : Int × Int, x.cells = cT.enc a ∧ (-9223372036854775808 ≤ a.1 ∧ a.1 ≤ 9223372036854775807) := by
  have h := (show Deep X w m (.arr .i64 2) x d from h)
  cases m with
  | zero => exact h.elim
  | succ m =>
    simp only [Deep] at h
    obtain ⟨f, l, h1, h2, h3, h4⟩ := h
    exact ⟨(f 0, f 1), by rw [h1]; rfl, wf_i64 (h4 0 (by omega)).2⟩
theorem walk16 (hg : Tabs W) (svs : List SV) (ds : List (DataW H)) (h : ArgsD X W [27, 27, 30, 45, 3, 73] svs ds) (hk : Rows.uptoSmall H ds = true) :
    Ret Tryd.prog 16 svs W fun r w1 => r = .bool true ∧ Upd [] [] W w1 := by
  obtain ⟨x, _, d1, _, m1, rfl, rfl, h1, h⟩ := argsD_cons h
  obtain ⟨y, _, d2, _, m2, rfl, rfl, h2, h⟩ := argsD_cons h
  obtain ⟨z, _, d3, _, m3, rfl, rfl, h3, h⟩ := argsD_cons h
  obtain ⟨z', _, d4, _, m4, rfl, rfl, h4, h⟩ := argsD_cons h
  obtain ⟨z5, _, d5, _, m5, rfl, rfl, h5, h⟩ := argsD_cons h
  obtain ⟨z6, _, d6, _, m6, rfl, rfl, h6, h⟩ := argsD_cons h
  obtain ⟨rfl, rfl⟩ := argsD_nil h
  have hb := of_decide_eq_true hk
  obtain ⟨sv, sa, rfl, hsa⟩ := deep_adr h1
  obtain ⟨dv, da, rfl, hda⟩ := deep_adr h2
  obtain ⟨u, sdu, _, _, _, ddu, rfl, hdu, hfu, hcu, rfl, hslu⟩ := deep_udp h3
  obtain ⟨t, so, sd, os, _, _, _, _, _, _, _, do_, dd, rfl, ho, hd, hf, hc, hc2, hc3, rfl, hdo, hsl⟩ := deep_tcp h4
  obtain ⟨most, rfl, _, hm⟩ := dp_int h5
  obtain ⟨s2, ts, rfl, hts, htv, _, _⟩ := dp_slice (X := X) (c := cT) (e := 91) (P := fun a => -9223372036854775808 ≤ a.1 ∧ a.1 ≤ 9223372036854775807) rfl deep_turn (show Deep X W m6 (.slice 91) z6 d6 from h6)
  have k1 := bulk_sl hslu
  have k2 := bulk_opts hdo
  have k3 := bulk_sl hsl
  simp only [Rows.uptoBulk, Rows.uptoBulkAll] at hb
  exact c16 (e := ⟨sv, sa, dv, da⟩) hg ⟨hsa, hda⟩ ⟨hdu, by omega, hfu, hcu⟩ ⟨ho, by omega, fun o h' => by have := k2.2 o h'; omega, hd, by omega, hf, hc, hc2, hc3⟩ (by omega) (fun o h' => by have := k2.2 o h'; omega) (wf_i64 hm) hts htv
end
end Go.Vc.S9
end

section
open Go Go.Vc Go.Proofs Go.ChangeShapes Go.WideShapes Go.ChangeAt Go.RowKit
set_option linter.unusedVariables false
set_option maxRecDepth 100000
namespace Go.Proofs.YtmchllbemgnieaaDoor
theorem own : ownKnob Tryd.prog.godebug = none := by kernel_rfl
theorem laidOut : laidOutB Tryd.prog = true := by kernel_rfl
theorem gU : Tryd.prog.globalNamed "weir/l4.udpWidths" = some 0 := by kernel_rfl
theorem gT : Tryd.prog.globalNamed "weir/l4.tcpWidths" = some 1 := by kernel_rfl
theorem gL : Tryd.prog.globalNamed "weir/l4.lengths" = some 2 := by kernel_rfl
theorem gUT : (Tryd.prog.globals[0]?).map (·.type) = some 117 := by kernel_rfl
theorem gTT : (Tryd.prog.globals[1]?).map (·.type) = some 127 := by kernel_rfl
theorem gLT : (Tryd.prog.globals[2]?).map (·.type) = some 146 := by kernel_rfl
theorem cells117 : Tryd.prog.cellsOf 117 = 4 := by kernel_rfl
theorem cells127 : Tryd.prog.cellsOf 127 = 10 := by kernel_rfl
theorem cells146 : Tryd.prog.cellsOf 146 = 9 := by kernel_rfl
theorem cells3 : Tryd.prog.cellsOf 3 = 1 := by kernel_rfl
theorem cells145 : Tryd.prog.cellsOf 145 = 1 := by kernel_rfl
theorem und117 : Tryd.prog.underlying 117 = some (.array 4 3) := by kernel_rfl
theorem und127 : Tryd.prog.underlying 127 = some (.array 10 3) := by kernel_rfl
theorem und146 : Tryd.prog.underlying 146 = some (.array 9 145) := by kernel_rfl
theorem und3 : Tryd.prog.underlying 3 = some (.int .i64) := by kernel_rfl
theorem und145 : Tryd.prog.underlying 145 = some (.int .u64) := by kernel_rfl
/-- what the row's list gives: the tables' cells -/
theorem table {W : World} (h : laidMetH Tryd.prog [("weir/l4.udpWidths", Rows.laid_weir_l4_udpWidths), ("weir/l4.tcpWidths", Rows.laid_weir_l4_tcpWidths), ("weir/l4.lengths", Rows.laid_weir_l4_lengths)] W) : S9.Tabs W := by
  have h0 : laidMet Tryd.prog [("weir/l4.udpWidths", Rows.laid_weir_l4_udpWidths), ("weir/l4.tcpWidths", Rows.laid_weir_l4_tcpWidths), ("weir/l4.lengths", Rows.laid_weir_l4_lengths)] W := h
  have h1 := h0.tail
  have h2 := h1.tail
  have t0 : Lib.TabIs Tryd.prog W "weir/l4.udpWidths" .i64 widthsU := Lib.tabIs_of_head gU gUT und117 und3 cells3 cells117 h0
  have t1 : Lib.TabIs Tryd.prog W "weir/l4.tcpWidths" .i64 widthsT := Lib.tabIs_of_head gT gTT und127 und3 cells3 cells127 h1
  have t2 : Lib.TabIs Tryd.prog W "weir/l4.lengths" .u64 S9.lens9 := Lib.tabIs_of_head gL gLT und146 und145 cells145 cells146 h2
  refine ⟨⟨rfl, fun i hi => ?_⟩, ⟨rfl, fun i hi => ?_⟩, fun i hi => ?_⟩
  · have hi' : i < 4 := hi
    have := t0.cell gU i hi'
    rw [add_none, Nat.zero_add, this]
    rcases (by omega : i = 0 ∨ i = 1 ∨ i = 2 ∨ i = 3) with rfl | rfl | rfl | rfl <;> rfl
  · have hi' : i < 10 := hi
    have := t1.cell gT i hi'
    rw [add_none, Nat.zero_add, this]
    rcases (by omega : i = 0 ∨ i = 1 ∨ i = 2 ∨ i = 3 ∨ i = 4 ∨ i = 5 ∨ i = 6 ∨ i = 7 ∨ i = 8 ∨ i = 9) with rfl | rfl | rfl | rfl | rfl | rfl | rfl | rfl | rfl | rfl <;> rfl
  · have := t2.cell gL i hi
    rw [this]
    simp [List.getD_eq_getElem?_getD, List.getElem?_eq_getElem hi]
/-- an object's cells, laid -/
def setO (cs : Array Value) : Obj → Obj
  | .cells _ t frozen => .cells cs t frozen
  | o => o
/-- a world for the witness: the settled one, with the tables -/
noncomputable def laidWorld (os : Os) : World :=
  { World.holding Tryd.prog os ⟨#[], #[], []⟩ with heap := (((World.holding Tryd.prog os ⟨#[], #[], []⟩).heap.modify 0 (setO #[.int .i64 16, .int .i64 16, .int .i64 16, .int .i64 16])).modify 1 (setO #[.int .i64 16, .int .i64 16, .int .i64 32, .int .i64 32, .int .i64 4, .int .i64 4, .int .i64 8, .int .i64 16, .int .i64 16, .int .i64 16])).modify 2 (setO #[.int .u64 0, .int .u64 0, .int .u64 16, .int .u64 8, .int .u64 4, .int .u64 17247241216, .int .u64 0, .int .u64 0, .int .u64 1024]) }
end Go.Proofs.YtmchllbemgnieaaDoor
end
