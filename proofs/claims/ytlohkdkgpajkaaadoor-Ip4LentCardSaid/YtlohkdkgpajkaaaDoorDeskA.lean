import Derived.Test.YtlohkdkgpajkaaaDoorWinA
import Derived.Test.YtlohkdkgpajkaaaDoorG5
namespace Go.Vc
set_option linter.unusedVariables false
set_option linter.unusedSimpArgs false
set_option autoImplicit false
/-- cells of more kinds than one -/
inductive CV
  | sl (s : Sl) | int (n : Int) | ptr (p : Option Addr)
def cCV : Cod CV := ⟨1, fun | .sl s => [s.val] | .int n => [.int .i64 n] | .ptr p => [.pointer p], by intro x; cases x <;> rfl, by intro x v hv; cases x <;> simp at hv <;> subst hv <;> rfl⟩
abbrev bxN (b n : Nat) : Sl := ⟨some ⟨b, 0, none⟩, n, n⟩
/-- a box of such cells -/
structure Bx (w : World) (b : Nat) (l : List CV) : Prop where
  sees : Sees cCV w (bxN b l.length) l
  own : Own 0 1 w (bxN b l.length)
section
variable {w w1 : World} {b : Nat} {l : List CV}
theorem Bx.mk' {e : Nat} {cs : List Value} (h : w.heap[b]? = some (.cells cs.toArray e (0, 0))) (hc : cs = cCV.cells l) : Bx w b l :=
  ⟨sees_row h l hc rfl, own_row h (Nat.zero_le _) (by rw [hc, cCV.cells_length]; simp [cCV]) (Nat.le_refl _)⟩
theorem Bx.upd {m n : List Nat} (h : Bx w b l) (u : Upd m n w w1) (hm : b ∉ m) : Bx w1 b l := ⟨h.sees.upd u (by simpa [Sl.blk] using hm), h.own.upd u (by simpa [Sl.blk] using hm)⟩
theorem Bx.old {n : List Nat} (h : Bx w b l) (u : Upd [] n w w1) : Bx w1 b l := h.upd u (by simp)
theorem Bx.lt (h : Bx w b l) : b < w.heap.size := (h.own.blk b (by simp [Sl.blk])).2
theorem Bx.at_ (i : Nat) : (bxN b l.length).at 1 i = (⟨b, 0, none⟩ : Addr).add i := by simp [Sl.at]
theorem Bx.get (h : Bx w b l) (i : Nat) (hi : i < l.length) : some (w.cell? ((⟨b, 0, none⟩ : Addr).add i)) = ((cCV.enc l[i]).head?).map some := by
  have h0 : 0 < (cCV.enc l[i]).length := by cases l[i] <;> exact Nat.one_pos
  have h1 := h.sees.elem hi 0 h0
  rw [add_zero] at h1
  have h2 : w.cell? ((⟨b, 0, none⟩ : Addr).add i) = some (cCV.enc l[i])[0] := by rw [← Bx.at_ (b := b) (l := l)]; exact h1
  rw [h2]
  exact (fun (x : CV) (h : 0 < (cCV.enc x).length) => (by cases x <;> rfl : some (some (cCV.enc x)[0]) = ((cCV.enc x).head?).map some)) _ h0
theorem Bx.sl (h : Bx w b l) (i : Nat) (s : Sl) (hi : l[i]? = some (.sl s)) : w.cell? ((⟨b, 0, none⟩ : Addr).add i) = some s.val := by
  obtain ⟨h1, h2⟩ := List.getElem?_eq_some_iff.1 hi
  have := h.get i h1
  rw [h2] at this
  exact Option.some.inj this
theorem Bx.int (h : Bx w b l) (i : Nat) (n : Int) (hi : l[i]? = some (.int n)) : w.cell? ((⟨b, 0, none⟩ : Addr).add i) = some (.int .i64 n) := by
  obtain ⟨h1, h2⟩ := List.getElem?_eq_some_iff.1 hi
  have := h.get i h1
  rw [h2] at this
  exact Option.some.inj this
theorem Bx.ptr (h : Bx w b l) (i : Nat) (p : Option Addr) (hi : l[i]? = some (.ptr p)) : w.cell? ((⟨b, 0, none⟩ : Addr).add i) = some (.pointer p) := by
  obtain ⟨h1, h2⟩ := List.getElem?_eq_some_iff.1 hi
  have := h.get i h1
  rw [h2] at this
  exact Option.some.inj this
theorem Bx.set {bs : List Nat} {vs : List Value} {y : CV} {F : World → Prop} (h : Bx w b l) (i : Nat) (hi : i < l.length) (hv : vs = cCV.enc y) (hbs : b ∉ bs) (k : ∀ w1, Bx w1 b (l.set i y) → Upd [b] [] w w1 → F w1) : Store w ((⟨b, 0, none⟩ : Addr).add i) vs bs F := by
  rw [← Bx.at_ (b := b) (l := l)]
  refine own_set (c := cCV) (x := y) h.sees h.own (by decide) hi hv (by simpa [Sl.blk] using hbs) fun w1 h1 o1 u1 => k w1 ⟨by simpa using h1, by rw [List.length_set]; exact o1⟩ (by simpa [Sl.blk] using u1)
end
/-- the marks of a desk -/
def dmk (i : Nat) : Int := wr .u8 (wr .i64 (203 - wr .i64 (5 * (i : Int))))
def dmks (K : Nat) : List Int := (List.range K).map dmk
theorem dmks_len (K : Nat) : (dmks K).length = K := by simp [dmks]
theorem dmks_bt {K i : Nat} (h : i < K) : bt (dmks K) (i : Int) = dmk i := by rw [bt_nat (by rw [dmks_len]; exact h)]; simp [dmks]
/-- a desk with bytes on it -/
structure Dsk (N : Nat) (w : World) (b : Nat) (l : List Int) (K : Nat) (room : Sl) : Prop where
  box : Bx w b [.sl room, .int l.length]
  sees : SeesB w room (l ++ (dmks K).drop l.length)
  le : l.length ≤ K
  own : Own N 1 w room
  off : b ∉ room.blk
theorem Dsk.upd {N : Nat} {w w1 : World} {b K : Nat} {l : List Int} {room : Sl} {m n : List Nat} (h : Dsk N w b l K room) (u : Upd m n w w1) (h1 : b ∉ m) (h2 : ∀ x ∈ room.blk, x ∉ m) : Dsk N w1 b l K room :=
  ⟨h.box.upd u h1, h.sees.upd u h2, h.le, h.own.upd u h2, h.off⟩
theorem Dsk.old {N : Nat} {w w1 : World} {b K : Nat} {l : List Int} {room : Sl} {n : List Nat} (h : Dsk N w b l K room) (u : Upd [] n w w1) : Dsk N w1 b l K room := h.upd u (by simp) (by simp)
theorem Dsk.len {N : Nat} {w : World} {b K : Nat} {l : List Int} {room : Sl} (h : Dsk N w b l K room) : room.len = K := by
  have := h.sees.len
  have := h.le
  simp [dmks_len] at *
  omega
/-- what was lent -/
theorem Dsk.lent {N : Nat} {w : World} {b K : Nat} {l : List Int} {room : Sl} (h : Dsk N w b l K room) {n : Nat} (hn : n = l.length) : SeesB w (room.sub 1 0 n room.cap) l := by
  subst hn
  have h1 := h.len
  have := h.le
  have := h.own.le
  have := h.sees.subB (lo := 0) (hi := l.length) (mx := room.cap) (by omega) (by simp) (by omega)
  simpa using this
end Go.Vc
