import Derived.Test.YtkkdnnpnbmpifaaS11TxtP7
import Derived.Test.YtkkdnnpnbmpifaaS11C5
open Go Go.Vc Go.Proofs
set_option linter.unusedVariables false
set_option linter.unusedSimpArgs false
set_option autoImplicit false
namespace Go.Vc.S11
section
variable {w0 w' w w1 : World} {R : SV → World → Prop} {N n nb bk : Nat} {p q p0 q0 p1 q1 : Option Addr} {L bs : List Nat} {S : Hs} {off : Int} {l : List Int} {more : Bool}
/-- a pair of which one has a piece more -/
def HalfAt (N : Nat) (w : World) (p q : Option Addr) (S : Hs) (off : Int) (l : List Int) (more : Bool) (n : Nat) (bs : List Nat) : Prop := ∃ hp hq m W B G A D P, p = some ⟨hp, 0, none⟩ ∧ q = some ⟨hq, 0, none⟩ ∧ Rl S W ∧ Hol N w hp (stepS S off l more) B G m ∧ Whl N w hq W A D P ∧ (∀ x ∈ hblk hp B G m, x ∉ wblk hq A D P) ∧ W.pcs.length ≤ n ∧ bs = hblk hp B G m ++ wblk hq A D P
theorem HalfAt.upd {ms ns : List Nat} (Q : HalfAt N w p q S off l more n bs) (u : Upd ms ns w w1) (h1 : ∀ x ∈ bs, x ∉ ms) : HalfAt N w1 p q S off l more n bs := by
  obtain ⟨hp, hq, m, W, B, G, A, D, P, rfl, rfl, r, H, V, d, c, rfl⟩ := Q
  exact ⟨hp, hq, m, W, B, G, A, D, P, rfl, rfl, r, H.upd u (fun x hx => h1 x (List.mem_append_left _ hx)), V.upd u (fun x hx => h1 x (List.mem_append_right _ hx)), d, c, rfl⟩
theorem HalfAt.lt (Q : HalfAt N w p q S off l more n bs) : ∀ x ∈ bs, N ≤ x ∧ x < w.heap.size := by
  obtain ⟨hp, hq, m, W, B, G, A, D, P, rfl, rfl, r, H, V, d, c, rfl⟩ := Q
  intro x hx
  rcases List.mem_append.1 hx with hx | hx
  · exact H.lt x hx
  · exact V.lt x hx
/-- Play, with a piece put for the program alone -/
def Half (w0 w : World) (p0 q0 p1 q1 : Option Addr) (n nb bk : Nat) (L : List Nat) (S : Hs) (off : Int) (l : List Int) (more : Bool) : Prop := ∃ bs0 bs1 hd ct, HalfAt w0.heap.size w p0 q0 S off l more n bs0 ∧ BookAt w0.heap.size w bk nb hd ct ∧
  ((∃ S1, PairAt w0.heap.size w p1 q1 S1 n bs1 ∧ ∀ x ∈ bs0, x ∉ bs1) ∨ (bs0 = bs1 ∧ p0 = p1 ∧ q0 = q1)) ∧ (∀ x, x ∈ bs0 ∨ x ∈ bs1 → x ∉ hd ∧ x ∉ ct) ∧ (∀ x ∈ L, w0.heap.size ≤ x ∧ x < w.heap.size ∧ x ∉ bs0 ∧ x ∉ bs1 ∧ x ∉ hd ∧ x ∉ ct) ∧ Upd [] [] w0 w
theorem Half.upd {ms ns : List Nat} (h : Half w0 w p0 q0 p1 q1 n nb bk L S off l more) (u : Upd ms ns w w1) (hm : ∀ x ∈ ms, w.heap.size ≤ x ∨ x ∈ L) : Half w0 w1 p0 q0 p1 q1 n nb bk L S off l more := by
  obtain ⟨bs0, bs1, hd, ct, a, c, d, e, f, g⟩ := h
  have z := g.size
  have z1 := u.size
  have la := a.lt; have lc := c.lt
  have no0 : ∀ x ∈ bs0, x ∉ ms := fun x hx q => by
    rcases hm x q with r | r
    · have := la x hx; omega
    · exact (f x r).2.2.1 hx
  refine ⟨bs0, bs1, hd, ct, a.upd u no0, c.upd u (fun x hx q => ?_) (fun x hx q => ?_), ?_, e, fun x hx => ⟨(f x hx).1, by have := (f x hx).2.1; omega, (f x hx).2.2⟩, g.step0 u (fun x hx => ?_)⟩
  · rcases hm x q with r | r
    · have := lc.1 x hx; omega
    · exact (f x r).2.2.2.2.1 hx
  · rcases hm x q with r | r
    · have := lc.2 x hx; omega
    · exact (f x r).2.2.2.2.2 hx
  · rcases d with ⟨S1, d1, d2⟩ | d
    · refine .inl ⟨S1, d1.upd u (fun x hx q => ?_), d2⟩
      rcases hm x q with r | r
      · have := d1.lt x hx; omega
      · exact (f x r).2.2.2.1 hx
    · exact .inr d
  · rcases hm x hx with r | r
    · omega
    · exact (f x r).1
/-- boxes more -/
theorem Play.addL {ms ns L2 : List Nat} (h : Play w0 w p0 q0 p1 q1 n nb bk L) (u : Upd ms ns w w1) (hm : ∀ x ∈ ms, w.heap.size ≤ x ∨ x ∈ L) (hb : ∀ x ∈ L2, w.heap.size ≤ x ∧ x < w1.heap.size) : Play w0 w1 p0 q0 p1 q1 n nb bk (L2 ++ L) := by
  have h2 := h.upd u hm
  obtain ⟨S0, S1, bs0, bs1, hd, ct, a, b, c, d, e, f, g⟩ := h
  have z := g.size
  have la := a.lt; have lb := b.lt; have lc := c.lt
  have no : ∀ {x : Nat}, w.heap.size ≤ x → x ∉ bs0 ∧ x ∉ bs1 ∧ x ∉ hd ∧ x ∉ ct := fun hx => ⟨fun q => by have := la _ q; omega, fun q => by have := lb _ q; omega, fun q => by have := lc.1 _ q; omega, fun q => by have := lc.2 _ q; omega⟩
  have f1 : ∀ x ∈ bs0, x ∉ ms := fun x hx q => by
    rcases hm x q with r | r
    · exact (no r).1 hx
    · exact (f x r).2.2.1 hx
  have f2 : ∀ x ∈ bs1, x ∉ ms := fun x hx q => by
    rcases hm x q with r | r
    · exact (no r).2.1 hx
    · exact (f x r).2.2.2.1 hx
  have f3 : ∀ x ∈ hd, x ∉ ms := fun x hx q => by
    rcases hm x q with r | r
    · exact (no r).2.2.1 hx
    · exact (f x r).2.2.2.2.1 hx
  have f4 : ∀ x ∈ ct, x ∉ ms := fun x hx q => by
    rcases hm x q with r | r
    · exact (no r).2.2.2 hx
    · exact (f x r).2.2.2.2.2 hx
  refine ⟨S0, S1, bs0, bs1, hd, ct, a.upd u f1, b.upd u f2, c.upd u f3 f4, d, e, fun x hx => ?_, h2.u⟩
  rcases List.mem_append.1 hx with q | q
  · exact ⟨by have := (hb x q).1; omega, (hb x q).2, no (hb x q).1⟩
  · exact ⟨(f x q).1, by have := (f x q).2.1; have := u.size; omega, (f x q).2.2⟩
/-- the program's Put for the first -/
theorem Play.c12 {data : Sl} (h : Play w0 w p0 q0 p1 q1 n nb bk L) (hd : SeesB w data l) (hcap : data.len ≤ data.cap) (hb : Byt l) (hdis : ∀ x ∈ data.blk, x ∈ L)
    (k : ∀ S w1, Half w0 w1 p0 q0 p1 q1 n nb bk L S off l more → Kept L w w1 → R (.tuple [.struct [.int .i64 (fitN S off l more), .int .i64 (fitO S off l more), .bool (fitB S off l more)], .int .i64 (errS S off l.length more)]) w1) :
    Ret Try.prog 12 [.ptr p0, .int .i64 off, .slice data, .bool more] w R := by
  have hu := h.u
  obtain ⟨S0, S1, bs0, bs1, hd', ct, a, b, c, d, e, f, g⟩ := h
  have la := a.lt; have lb := b.lt; have lc := c.lt
  obtain ⟨hp, hq, m, W, B, G, A, D, P, rfl, rfl, r, H, V, dd, cc, rfl⟩ := a
  refine c12' H r.g.ok hd hcap hb (fun x hx => ⟨(f x (hdis x hx)).2.1, fun hm => (f x (hdis x hx)).2.2.1 (List.mem_append_left _ hm)⟩) fun B6 G6 w6 u6 H6 n6 => k S0 w6 ?_ (fun x hx => u6.keep x (f x hx).2.1 (fun hm => (f x hx).2.2.1 (List.mem_append_left _ hm)))
  have z6 := u6.size
  have nw : ∀ x ∈ hblk hp B6 G6 m ++ wblk hq A D P, x ∈ hblk hp B G m ++ wblk hq A D P ∨ w.heap.size ≤ x := fun x hx => by
    rcases List.mem_append.1 hx with q | q
    · rcases n6 x q with r | r
      · exact .inl (List.mem_append_left _ r)
      · exact .inr r
    · exact .inl (List.mem_append_right _ q)
  have ltW := V.lt
  refine ⟨hblk hp B6 G6 m ++ wblk hq A D P, (if (∀ x ∈ hblk hp B G m ++ wblk hq A D P, x ∉ bs1) then bs1 else hblk hp B6 G6 m ++ wblk hq A D P), hd', ct, ⟨hp, hq, m, W, B6, G6, A, D, P, rfl, rfl, r, H6, V.upd u6 (fun x hx hm => dd x hm hx), fun x hx hm => ?_, cc, rfl⟩, c.upd u6 (fun x hx hm => (e x (.inl (List.mem_append_left _ hm))).1 hx) (fun x hx hm => (e x (.inl (List.mem_append_left _ hm))).2 hx), ?_, fun x hx => ?_, fun x hx => ⟨(f x hx).1, by have := (f x hx).2.1; omega, fun hm => ?_, fun hm => ?_, (f x hx).2.2.2.2⟩, hu.step0 u6 (fun x hx => (la x (List.mem_append_left _ hx)).1)⟩
  · rcases n6 x hx with q | q
    · exact dd x q hm
    · have := ltW x hm; omega
  · by_cases hdj : ∀ x ∈ hblk hp B G m ++ wblk hq A D P, x ∉ bs1
    · rw [if_pos hdj]
      refine .inl ⟨S1, b.upd u6 (fun x hx hm => hdj x (List.mem_append_left _ hm) hx), fun x hx hm => ?_⟩
      rcases nw x hx with q | q
      · exact hdj x q hm
      · have := lb x hm; omega
    · rw [if_neg hdj]
      rcases d with d | ⟨_, _, d3, d4⟩
      · exact absurd d hdj
      · exact .inr ⟨rfl, d3, d4⟩
  · have key : ∀ x ∈ hblk hp B6 G6 m ++ wblk hq A D P, x ∉ hd' ∧ x ∉ ct := fun x hx => by
      rcases nw x hx with q | q
      · exact e x (.inl q)
      · exact ⟨fun hm => by have := lc.1 x hm; omega, fun hm => by have := lc.2 x hm; omega⟩
    rcases hx with q | q
    · exact key x q
    · split at q
      · exact e x (.inr q)
      · exact key x q
  · rcases nw x hm with q | q
    · exact (f x hx).2.2.1 q
    · have := (f x hx).2.1; omega
  · split at hm
    · exact (f x hx).2.2.2.1 hm
    · rcases nw x hm with q | q
      · exact (f x hx).2.2.1 q
      · have := (f x hx).2.1; omega
/-- .. and the document's -/
theorem Half.c26 {data : Sl} (h : Half w0 w p0 q0 p1 q1 n nb bk L S off l more) (hd : SeesB w data l) (hb : Byt l) (hll : l.length ≤ 1000000) (hn : n ≤ 1000000) (hdis : ∀ x ∈ data.blk, x ∈ L)
    (k : ∀ w1, Play w0 w1 p0 q0 p1 q1 (n + 1) nb bk L → Kept L w w1 → R (.tuple [.struct [.int .i64 (fitN S off l more), .int .i64 (fitO S off l more), .bool (fitB S off l more)], .int .i64 (errS S off l.length more)]) w1) :
    Ret Try.prog 26 [.ptr q0, .int .i64 off, .slice data, .bool more] w R := by
  obtain ⟨bs0, bs1, hd', ct, a, c, d, e, f, g⟩ := h
  have la := a.lt; have lc := c.lt
  obtain ⟨hp, hq, m, W, B, G, A, D, P, rfl, rfl, r, H, V, dd, cc, rfl⟩ := a
  have ltH := H.lt
  refine c26' r V hd hb (by omega) (by omega) (fun x hx => ⟨(f x (hdis x hx)).2.1, fun hm => (f x (hdis x hx)).2.2.1 (List.mem_append_right _ hm)⟩) fun A6 D6 P6 w6 u6 V6 n6 => k w6 ?_ (fun x hx => u6.keep x (f x hx).2.1 (fun hm => (f x hx).2.2.1 (List.mem_append_right _ hm)))
  have z6 := u6.size
  have nw : ∀ x ∈ hblk hp B G m ++ wblk hq A6 D6 P6, x ∈ hblk hp B G m ++ wblk hq A D P ∨ w.heap.size ≤ x := fun x hx => by
    rcases List.mem_append.1 hx with q | q
    · exact .inl (List.mem_append_left _ q)
    · rcases n6 x q with r | r
      · exact .inl (List.mem_append_right _ r)
      · exact .inr r
  have a6 : PairAt w0.heap.size w6 (some ⟨hp, 0, none⟩) (some ⟨hq, 0, none⟩) (stepS S off l more) (n + 1) (hblk hp B G m ++ wblk hq A6 D6 P6) := ⟨hp, hq, m, _, _, _, _, _, _, rfl, rfl, r.step off more hb, H.upd u6 (fun x hx hm => dd x hx hm), V6, fun x hx hm => by
    rcases n6 x hm with q | q
    · exact dd x hx q
    · have := ltH x hx; omega, by
    unfold stepW
    split
    · simp [putW]; omega
    · omega, rfl⟩
  have key : ∀ x ∈ hblk hp B G m ++ wblk hq A6 D6 P6, x ∉ hd' ∧ x ∉ ct := fun x hx => by
    rcases nw x hx with q | q
    · exact e x (.inl q)
    · exact ⟨fun hm => by have := lc.1 x hm; omega, fun hm => by have := lc.2 x hm; omega⟩
  have kL : ∀ x ∈ L, x ∉ hblk hp B G m ++ wblk hq A6 D6 P6 := fun x hx hm => by
    rcases nw x hm with q | q
    · exact (f x hx).2.2.1 q
    · have := (f x hx).2.1; omega
  have c6 := c.upd u6 (fun x hx hm => (e x (.inl (List.mem_append_right _ hm))).1 hx) (fun x hx hm => (e x (.inl (List.mem_append_right _ hm))).2 hx)
  have g6 := g.step0 u6 (fun x hx => (la x (List.mem_append_right _ hx)).1)
  rcases d with ⟨S1, d1, d2⟩ | ⟨d1, d2, d3⟩
  · have lb := d1.lt
    refine ⟨_, S1, _, bs1, hd', ct, a6, (d1.upd u6 (fun x hx hm => d2 x (List.mem_append_right _ hm) hx)).more (by omega), c6, .inl fun x hx hm => ?_, fun x hx => ?_, fun x hx => ⟨(f x hx).1, by have := (f x hx).2.1; omega, kL x hx, (f x hx).2.2.2⟩, g6⟩
    · rcases nw x hx with q | q
      · exact d2 x q hm
      · have := lb x hm; omega
    · rcases hx with q | q
      · exact key x q
      · exact e x (.inr q)
  · subst d2 d3
    exact ⟨_, _, _, _, hd', ct, a6, a6, c6, .inr ⟨rfl, rfl, rfl, rfl⟩, fun x hx => key x (hx.elim id id), fun x hx => ⟨(f x hx).1, by have := (f x hx).2.1; omega, kL x hx, kL x hx, (f x hx).2.2.2.2⟩, g6⟩
end
end Go.Vc.S11
