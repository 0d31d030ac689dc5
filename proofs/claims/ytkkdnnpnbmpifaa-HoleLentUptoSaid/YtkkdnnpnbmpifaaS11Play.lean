import Derived.Test.YtkkdnnpnbmpifaaS11Ask
open Go Go.Vc Go.Proofs
set_option linter.unusedVariables false
set_option linter.unusedSimpArgs false
set_option autoImplicit false
namespace Go.Vc.S11
/-- two pairs and a book; L: boxes that are none of theirs -/
def Play (w0 w : World) (p0 q0 p1 q1 : Option Addr) (n nb bk : Nat) (L : List Nat) : Prop := ∃ S0 S1 bs0 bs1 hd ct, PairAt w0.heap.size w p0 q0 S0 n bs0 ∧ PairAt w0.heap.size w p1 q1 S1 n bs1 ∧ BookAt w0.heap.size w bk nb hd ct ∧
  ((∀ x ∈ bs0, x ∉ bs1) ∨ (S0 = S1 ∧ bs0 = bs1 ∧ p0 = p1 ∧ q0 = q1)) ∧ (∀ x, x ∈ bs0 ∨ x ∈ bs1 → x ∉ hd ∧ x ∉ ct) ∧ (∀ x ∈ L, w0.heap.size ≤ x ∧ x < w.heap.size ∧ x ∉ bs0 ∧ x ∉ bs1 ∧ x ∉ hd ∧ x ∉ ct) ∧ Upd [] [] w0 w
section
variable {w0 w' w w1 : World} {R : SV → World → Prop} {n nb bk : Nat} {p0 q0 p1 q1 : Option Addr} {L : List Nat}
theorem Play.swap (h : Play w0 w p0 q0 p1 q1 n nb bk L) : Play w0 w p1 q1 p0 q0 n nb bk L := by
  obtain ⟨S0, S1, bs0, bs1, hd, ct, a, b, c, d, e, f, g⟩ := h
  refine ⟨S1, S0, bs1, bs0, hd, ct, b, a, c, ?_, fun x hx => e x hx.symm, fun x hx => ⟨(f x hx).1, (f x hx).2.1, (f x hx).2.2.2.1, (f x hx).2.2.1, (f x hx).2.2.2.2⟩, g⟩
  rcases d with d | ⟨d1, d2, d3, d4⟩
  · exact .inl fun x hx hm => d x hm hx
  · exact .inr ⟨d1.symm, d2.symm, d3.symm, d4.symm⟩
theorem Play.upd {ms ns : List Nat} (h : Play w0 w p0 q0 p1 q1 n nb bk L) (u : Upd ms ns w w1) (hm : ∀ x ∈ ms, w.heap.size ≤ x ∨ x ∈ L) : Play w0 w1 p0 q0 p1 q1 n nb bk L := by
  obtain ⟨S0, S1, bs0, bs1, hd, ct, a, b, c, d, e, f, g⟩ := h
  have z := g.size
  have z1 := u.size
  have la := a.lt; have lb := b.lt; have lc := c.lt
  refine ⟨S0, S1, bs0, bs1, hd, ct, a.upd u (fun x hx q => ?_), b.upd u (fun x hx q => ?_), c.upd u (fun x hx q => ?_) (fun x hx q => ?_), d, e, fun x hx => ⟨(f x hx).1, by have := (f x hx).2.1; omega, (f x hx).2.2⟩, g.step0 u (fun x hx => ?_)⟩
  · rcases hm x q with r | r
    · have := la x hx; omega
    · exact (f x r).2.2.1 hx
  · rcases hm x q with r | r
    · have := lb x hx; omega
    · exact (f x r).2.2.2.1 hx
  · rcases hm x q with r | r
    · have := lc.1 x hx; omega
    · exact (f x r).2.2.2.2.1 hx
  · rcases hm x q with r | r
    · have := lc.2 x hx; omega
    · exact (f x r).2.2.2.2.2 hx
  · rcases hm x hx with r | r
    · omega
    · exact (f x r).1
theorem Play.old {ns : List Nat} (h : Play w0 w p0 q0 p1 q1 n nb bk L) (u : Upd [] ns w w1) : Play w0 w1 p0 q0 p1 q1 n nb bk L := h.upd u (by simp)
/-- a box more -/
theorem Play.add {ns : List Nat} {b : Nat} (h : Play w0 w p0 q0 p1 q1 n nb bk L) (u : Upd [] ns w w1) (hb : b ∈ ns) : Play w0 w1 p0 q0 p1 q1 n nb bk (b :: L) := by
  have nbb := u.new hb
  obtain ⟨S0, S1, bs0, bs1, hd, ct, a, b', c, d, e, f, g⟩ := h
  have z := g.size
  have la := a.lt; have lb := b'.lt; have lc := c.lt
  refine ⟨S0, S1, bs0, bs1, hd, ct, a.old u, b'.old u, c.old u, d, e, fun x hx => ?_, g.then u⟩
  rcases List.mem_cons.1 hx with rfl | hx
  · exact ⟨by omega, nbb.2, fun q => by have := la _ q; omega, fun q => by have := lb _ q; omega, fun q => by have := lc.1 _ q; omega, fun q => by have := lc.2 _ q; omega⟩
  · exact ⟨(f x hx).1, by have := (f x hx).2.1; have := u.size; omega, (f x hx).2.2⟩
theorem Play.less {L' : List Nat} (h : Play w0 w p0 q0 p1 q1 n nb bk L) (hl : ∀ x ∈ L', x ∈ L) : Play w0 w p0 q0 p1 q1 n nb bk L' := by
  obtain ⟨S0, S1, bs0, bs1, hd, ct, a, b, c, d, e, f, g⟩ := h
  exact ⟨S0, S1, bs0, bs1, hd, ct, a, b, c, d, e, fun x hx => f x (hl x hx), g⟩
theorem Play.lt (h : Play w0 w p0 q0 p1 q1 n nb bk L) : ∀ x ∈ L, x < w.heap.size := by
  obtain ⟨S0, S1, bs0, bs1, hd, ct, a, b, c, d, e, f, g⟩ := h
  exact fun x hx => (f x hx).2.1
theorem Play.u (h : Play w0 w p0 q0 p1 q1 n nb bk L) : Upd [] [] w0 w := by
  obtain ⟨S0, S1, bs0, bs1, hd, ct, a, b, c, d, e, f, g⟩ := h
  exact g
/-- a piece for the first -/
theorem Play.c21 {ms ns : List Nat} {off : Int} {data : Sl} {l : List Int} {more : Bool} (h : Play w0 w' p0 q0 p1 q1 n nb bk L) (u : Upd ms ns w' w) (hms : ∀ x ∈ ms, w'.heap.size ≤ x) (hd : SeesB w data l) (hb : Byt l) (hll : l.length ≤ 1000000) (hn : n ≤ 1000000) (hdis : ∀ x ∈ data.blk, w'.heap.size ≤ x ∧ x < w.heap.size)
    (k : ∀ w1, Play w0 w1 p0 q0 p1 q1 (n + 1) nb bk L → Kept L w w1 → R (.bool true) w1) : Ret Try.prog 21 [.struct [.ptr p0, .ptr q0], .int .i64 off, .slice data, .bool more] w R := by
  have h2 := h.upd u (fun x hx => .inl (hms x hx))
  have z := u.size
  obtain ⟨S0, S1, bs0, bs1, hd', ct, a, b, c, d, e, f, g⟩ := h
  have la := a.lt; have lb := b.lt; have lc := c.lt
  have a2 := a.upd u (fun x hx hm => by have := la x hx; have := hms x hm; omega)
  have b2 := b.upd u (fun x hx hm => by have := lb x hx; have := hms x hm; omega)
  have c2 := c.upd u (fun x hx hm => by have := lc.1 x hx; have := hms x hm; omega) (fun x hx hm => by have := lc.2 x hx; have := hms x hm; omega)
  refine S11.c21 a2 hd hb hll hn (fun x hx => ⟨(hdis x hx).2, fun hm => by have := la x hm; have := (hdis x hx).1; omega⟩) fun bs' w1 u1 a3 n3 => k w1 ?_ (fun x hx => u1.keep x (by have := (f x hx).2.1; omega) (f x hx).2.2.1)
  have z1 := u1.size
  have nw : ∀ x ∈ bs', x ∉ hd' ∧ x ∉ ct := fun x hx => by
    rcases n3 x hx with q | q
    · exact e x (.inl q)
    · exact ⟨fun hm => by have := lc.1 x hm; omega, fun hm => by have := lc.2 x hm; omega⟩
  have c3 := c2.upd u1 (fun x hx hm => (e x (.inl hm)).1 hx) (fun x hx hm => (e x (.inl hm)).2 hx)
  have g3 : Upd [] [] w0 w1 := h2.u.step0 u1 (fun x hx => (la x hx).1)
  have fL : ∀ x ∈ L, x ∉ bs' := fun x hx hm => by
    rcases n3 x hm with q | q
    · exact (f x hx).2.2.1 q
    · have := (f x hx).2.1; omega
  rcases d with d | ⟨rfl, rfl, rfl, rfl⟩
  · refine ⟨_, S1, bs', bs1, hd', ct, a3, (b2.upd u1 (fun x hx hm => d x hm hx)).more (by omega), c3, .inl fun x hx hm => ?_, fun x hx => ?_, fun x hx => ⟨(f x hx).1, by have := (f x hx).2.1; omega, fL x hx, (f x hx).2.2.2⟩, g3⟩
    · rcases n3 x hx with q | q
      · exact d x q hm
      · have := lb x hm; omega
    · rcases hx with q | q
      · exact nw x q
      · exact e x (.inr q)
  · exact ⟨_, _, bs', bs', hd', ct, a3, a3, c3, .inr ⟨rfl, rfl, rfl, rfl⟩, fun x hx => nw x (hx.elim id id), fun x hx => ⟨(f x hx).1, by have := (f x hx).2.1; omega, fL x hx, fL x hx, (f x hx).2.2.2.2⟩, g3⟩
/-- the first is asked -/
theorem Play.c22 {kind : Int} (h : Play w0 w p0 q0 p1 q1 n nb bk L) (hnb : nb ≤ 1000000)
    (k : ∀ w1, Play w0 w1 p0 q0 p1 q1 n (nb + 1) bk L → Kept L w w1 → R (.bool true) w1) : Ret Try.prog 22 [.struct [.ptr p0, .ptr q0], .int .i64 kind, .ptr (some ⟨bk, 0, none⟩)] w R := by
  have hu := h.u
  obtain ⟨S0, S1, bs0, bs1, hd', ct, a, b, c, d, e, f, g⟩ := h
  have la := a.lt; have lb := b.lt; have lc := c.lt
  refine S11.c22 a c hnb (fun x hx => e x (.inl hx)) fun hd2 ct2 w1 u1 c1 a1 n1 n2 => k w1 ?_ (fun x hx => u1.keep x (f x hx).2.1 (f x hx).2.2.2.2.1)
  have z1 := u1.size
  refine ⟨S0, S1, bs0, bs1, hd2, ct2, a1, b.upd u1 (fun x hx hm => (e x (.inr hx)).1 hm), c1, d, fun x hx => ⟨fun hm => ?_, fun hm => ?_⟩, fun x hx => ⟨(f x hx).1, by have := (f x hx).2.1; omega, (f x hx).2.2.1, (f x hx).2.2.2.1, fun hm => ?_, fun hm => ?_⟩, hu.step0 u1 (fun x hx => (lc.1 x hx).1)⟩
  · rcases n1 x hm with q | q
    · exact (e x hx).1 q
    · rcases hx with r | r
      · have := la x r; omega
      · have := lb x r; omega
  · rcases n2 x hm with q | q
    · exact (e x hx).2 q
    · rcases hx with r | r
      · have := la x r; omega
      · have := lb x r; omega
  · rcases n1 x hm with q | q
    · exact (f x hx).2.2.2.2.1 q
    · have := (f x hx).2.1; omega
  · rcases n2 x hm with q | q
    · exact (f x hx).2.2.2.2.2 q
    · have := (f x hx).2.1; omega
/-- a new first one -/
theorem Play.c20 {mx : Int} (h : Play w0 w p0 q0 p1 q1 n nb bk L)
    (k : ∀ p q w1, Upd [] [] w w1 → Play w0 w1 p q p1 q1 n nb bk L → R (.tuple [.struct [.ptr p, .ptr q], .bool true]) w1) : Ret Try.prog 20 [.int .i64 mx, .struct [.ptr p0, .ptr q0]] w R := by
  have hu := h.u
  refine S11.c20 (fun _ w1 u1 => k p0 q0 w1 u1 (h.old u1)) fun _ _ p q bs w1 u1 a1 => k p q w1 u1 ?_
  obtain ⟨S0, S1, bs0, bs1, hd', ct, a, b, c, d, e, f, g⟩ := h
  have lb := b.lt; have lc := c.lt; have l1 := a1.lt
  have z := u1.size
  refine ⟨_, S1, bs, bs1, hd', ct, (a1.mono hu.size).more (Nat.zero_le _), b.old u1, c.old u1, .inl fun x hx hm => by have := l1 x hx; have := lb x hm; omega, fun x hx => ?_, fun x hx => ⟨(f x hx).1, by have := (f x hx).2.1; omega, fun hm => by have := l1 x hm; have := (f x hx).2.1; omega, (f x hx).2.2.2⟩, g.then u1⟩
  rcases hx with q | q
  · exact ⟨fun hm => by have := l1 x q; have := lc.1 x hm; omega, fun hm => by have := l1 x q; have := lc.2 x hm; omega⟩
  · exact e x (.inr q)
theorem Play.c23 (h : Play w0 w p0 q0 p1 q1 n nb bk L) (hnb : nb ≤ 1000000) (k : ∀ w1, Upd [] [] w w1 → Play w0 w1 p0 q0 p1 q1 n nb bk L → R (.bool true) w1) : Ret Try.prog 23 [.ptr (some ⟨bk, 0, none⟩)] w R := by
  have h2 := h
  obtain ⟨S0, S1, bs0, bs1, hd', ct, a, b, c, d, e, f, g⟩ := h
  exact S11.c23 c hnb fun w1 u1 => k w1 u1 (h2.old u1)
theorem kept_keeps {L L' : List Nat} {w w1 : World} (h : Kept L w w1) (hl : ∀ x ∈ L', x ∈ L) : Keeps L' w w1 := .inr fun x hx => h x (hl x hx)
/-- an empty book -/
theorem book_new {bk e : Nat} {N : Nat} (hr : w.heap[bk]? = some (.cells (SV.cells (.struct [.slice ⟨none, 0, 0⟩, .slice ⟨none, 0, 0⟩, .slice ⟨none, 0, 0⟩, .slice ⟨none, 0, 0⟩])).toArray e (0, 0))) (hN : N ≤ bk) : BookAt N w bk 0 [bk] [] := by
  have hlt := (Array.getElem?_eq_some_iff.1 hr).1
  have blk0 : ∀ s ∈ [(⟨none, 0, 0⟩ : Sl), ⟨none, 0, 0⟩, ⟨none, 0, 0⟩, ⟨none, 0, 0⟩], s = ⟨none, 0, 0⟩ := by simp
  refine ⟨⟨none, 0, 0⟩, ⟨none, 0, 0⟩, ⟨none, 0, 0⟩, ⟨none, 0, 0⟩, ⟨⟨Bx.mk' hr rfl, fun s hs => by rw [blk0 s hs]; exact Own.none _ _ _, fun s hs => by rw [blk0 s hs]; simp [Sl.blk], fun i j s t hi hj _ x hx => ?_, ⟨hN, by omega⟩⟩, ⟨[], [], Sees.nil _ _ _ _, Sees.nil _ _ _ _, rfl, by simp, by simp, by simp⟩, ⟨[], [], Sees.nil _ _ _ _, Sees.nil _ _ _ _, rfl, by simp, by simp, by simp⟩, by simp⟩, by simp [rowsB, Sl.blk]⟩
  rw [blk0 s (List.mem_of_getElem? hi)] at hx
  simp [Sl.blk] at hx
end
end Go.Vc.S11
