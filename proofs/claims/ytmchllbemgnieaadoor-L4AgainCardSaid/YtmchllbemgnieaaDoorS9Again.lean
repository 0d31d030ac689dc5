import Derived.Test.YtmchllbemgnieaaDoorS9Settle
open Go Go.Vc Go.Proofs Go.ChangeShapes Go.WideShapes Go.ChangeAt Go.RowKit
set_option linter.unusedVariables false
set_option linter.unusedSimpArgs false
set_option autoImplicit false
namespace Go.Vc.S9
variable {w : World} {R : SV → World → Prop}
def optE (l : List Int) : Int := if optsP ok9 l = none then 97 else 0
def optL (l : List Int) : List Opt := ((optsP ok9 l).getD []).map (optAt l)
theorem optsP_few {l : List Int} (hb : Byt l) {ps : List (Nat × Nat)} (h : optsP ok9 l = some ps) : ps.length ≤ 40 := by
  obtain ⟨hpl, hl40⟩ := optsP_places ok9_two hb h
  have h7 := flat_ge (ps.map (optAt l))
  have h8 := (optsP_ok ok9_two hb h).2
  rw [List.length_map] at h7
  omega
theorem optL_few {l : List Int} (hb : Byt l) : (optL l).length ≤ 40 ∧ ∀ o ∈ optL l, Byt o.data := by
  unfold optL
  cases e : optsP ok9 l with
  | none => simp
  | some ps =>
    have := optsP_few hb e
    refine ⟨by simpa using this, fun o ho x hx => ?_⟩
    obtain ⟨y, _, rfl⟩ := List.mem_map.1 ho
    exact hb x (List.mem_of_mem_take (List.mem_of_mem_drop hx))
theorem c33L {b : Sl} {l : List Int} (hg : Lens w) (h : SeesB w b l) (hb : Byt l) (hc : b.len ≤ b.cap) (hl : l.length < 9223372036854775807)
    (k : ∀ s os w1, Upd [] [] w w1 → Opts w1 s (optL l) os → Own w.heap.size 2 w1 s → R (.tuple [.slice s, .int .i64 (optE l)]) w1) : Ret Tryd.prog 33 [.slice b] w R := by
  refine c33 hg h hb hc hl (fun w1 u e => ?_) (fun ps s w1 e u hs ho => ?_)
  · have := k ⟨none, 0, 0⟩ [] w1 u (by unfold optL; rw [e]; exact Opts.nil _ _ _) (Own.none _ _ _)
    unfold optE at this
    rwa [if_pos e] at this
  · have := k s (ps.map (osAt b l)) w1 u (by unfold optL; rw [e]; exact opts_win hs (h.old u) (optsP_places ok9_two hb e).1) ho
    unfold optE at this
    rwa [if_neg (by simp [e])] at this
theorem c46L {b : Sl} {l : List Int} (h : SeesB w b l) (hb : Byt l) (hc : b.len ≤ b.cap) (hl : l.length < 9223372036854775807)
    (k : ∀ s os w1, Upd [] [] w w1 → Opts w1 s (optL l) os → Own w.heap.size 2 w1 s → R (.tuple [.slice s, .int .i64 (optE l)]) w1) : Ret Tryd.prog 46 [.slice b] w R := by
  refine c46 h hb hc hl (fun w1 u e => ?_) (fun ps s os w1 e u hs ho _ => ?_)
  · have := k ⟨none, 0, 0⟩ [] w1 u (by unfold optL; rw [e]; exact Opts.nil _ _ _) (Own.none _ _ _)
    unfold optE at this
    rwa [if_pos e] at this
  · have := k s os w1 u (by unfold optL; rw [e]; exact hs) ho
    unfold optE at this
    rwa [if_neg (by simp [e])] at this
/-- turns: pairs of numbers -/
def cT : Cod (Int × Int) := ⟨2, fun p => [.int .i64 p.1, .int .i64 p.2], fun _ => rfl, by simp [Value.oneCell']⟩
/-- what stands at the head of each turn -/
structure Turn (N : Nat) (w : World) (bd bk : Nat) (now room : Sl) (l : List Int) (K n : Nat) (L W : Sl) (ls : List (List (Int × Sl))) (gs hs : List Sl) : Prop where
  sees : SeesB w now l
  own : Own N 1 w now
  byt : Byt l
  len : l.length = n
  desk : Dsk N w bd l K room
  lists : Lsts N w bk L W ls gs hs
  few : ∀ x ∈ ls, x.length ≤ 40
  base : N ≤ bd ∧ N ≤ bk ∧ N ≤ w.heap.size
  a1 : bd ≠ bk
  a2 : ∀ x ∈ now.blk, x ≠ bd ∧ x ≠ bk ∧ x ∉ room.blk ∧ x ∉ lotB L gs ∧ x ∉ lotB W hs
  a3 : ∀ x ∈ room.blk, x ≠ bk ∧ x ∉ lotB L gs ∧ x ∉ lotB W hs
  a4 : bd ∉ lotB L gs ∧ bd ∉ lotB W hs
theorem Turn.old {N bd bk K n : Nat} {w w1 : World} {now room L W : Sl} {l : List Int} {ls : List (List (Int × Sl))} {gs hs : List Sl} {m : List Nat} (h : Turn N w bd bk now room l K n L W ls gs hs) (u : Upd [] m w w1) : Turn N w1 bd bk now room l K n L W ls gs hs :=
  ⟨h.sees.old u, h.own.old u, h.byt, h.len, h.desk.old u, h.lists.old (n := 0) u, h.few, ⟨h.base.1, h.base.2.1, by have := u.size; have := h.base.2.2; omega⟩, h.a1, h.a2, h.a3, h.a4⟩
/-- one list more is kept -/
theorem Turn.keep {N bd bk K n : Nat} {now room L W g : Sl} {l : List Int} {ls : List (List (Int × Sl))} {gs hs : List Sl} {os : List (Int × Sl)} (h : Turn N w bd bk now room l K n L W ls gs hs) (hg : Sees cOpt w g os) (og : Own N 2 w g) (hos : os.length ≤ 40) (hls : ls.length ≤ 1000)
    (hd : ∀ x ∈ g.blk, x ≠ bd ∧ x ≠ bk ∧ x ∉ now.blk ∧ x ∉ room.blk ∧ x ∉ lotB L gs ∧ x ∉ lotB W hs)
    (k : ∀ L' W' c w1 ms, Upd ms [] w w1 → (∀ x ∈ ms, N ≤ x) → (∀ x ∈ ms, x = bk ∨ x ∈ L.blk ∨ x ∈ W.blk) → Turn N w1 bd bk now room l K n L' W' (ls ++ [os]) (gs ++ [g]) (hs ++ [c]) → (∀ x, x < w.heap.size → x ∈ lotB L' (gs ++ [g]) ∨ x ∈ lotB W' (hs ++ [c]) → x ∈ lotB L gs ∨ x ∈ lotB W hs ∨ x ∈ g.blk) → R (.tuple []) w1) : Ret Tryd.prog 49 [.ptr (some ⟨bk, 0, none⟩), .slice g] w R := by
  have hA := h.lists.A.lt
  have hB := h.lists.B.lt
  have hbd := h.desk.box.lt
  have hbk := h.lists.box.lt
  refine c49 h.lists hg og (fun x hx => ⟨(hd x hx).2.2.2.2.1, (hd x hx).2.2.2.2.2, (hd x hx).2.1⟩) h.base.2.2 (by omega) (by omega) fun L' W' c w1 ms u hms hl' nA nB => ?_
  have aL : ∀ x ∈ L.blk, x ∈ lotB L gs := fun x hx => lotB_mem.2 (.inl hx)
  have aW : ∀ x ∈ W.blk, x ∈ lotB W hs := fun x hx => lotB_mem.2 (.inl hx)
  have mN : ∀ x ∈ ms, N ≤ x := fun x hx => by
    rcases hms x hx with q | q | q
    · have := h.base.2.1; omega
    · exact (hA x (aL x q)).1
    · exact (hB x (aW x q)).1
  have off : ∀ x, x ≠ bk → x ∉ lotB L gs → x ∉ lotB W hs → x ∉ ms := fun x h1 h2 h3 hm => by
    rcases hms x hm with q | q | q
    · exact h1 q
    · exact h2 (aL x q)
    · exact h3 (aW x q)
  have ysz := u.size
  have nowm := h.own.blk
  have roomm := h.desk.own.blk
  refine k L' W' c w1 ms u mN hms ⟨h.sees.upd u (fun x hx => off x (h.a2 x hx).2.1 (h.a2 x hx).2.2.2.1 (h.a2 x hx).2.2.2.2), h.own.upd u (fun x hx => off x (h.a2 x hx).2.1 (h.a2 x hx).2.2.2.1 (h.a2 x hx).2.2.2.2), h.byt, h.len, h.desk.upd u (off bd h.a1 h.a4.1 h.a4.2) (fun x hx => off x (h.a3 x hx).1 (h.a3 x hx).2.1 (h.a3 x hx).2.2), hl', ?_, ⟨h.base.1, h.base.2.1, by have := h.base.2.2; omega⟩, h.a1, ?_, ?_, ?_⟩ ?_
  · intro x hx
    rcases List.mem_append.1 hx with q | q
    · exact h.few x q
    · rw [List.mem_singleton] at q; subst q; exact hos
  · intro x hx
    obtain ⟨q1, q2, q3, q4, q5⟩ := h.a2 x hx
    refine ⟨q1, q2, q3, fun hm => ?_, fun hm => ?_⟩
    · rcases nA x hm with r | r | r
      · exact q4 r
      · exact (hd x r).2.2.1 hx
      · have := nowm x hx; omega
    · rcases nB x hm with r | r
      · exact q5 r
      · have := nowm x hx; omega
  · intro x hx
    obtain ⟨q1, q2, q3⟩ := h.a3 x hx
    refine ⟨q1, fun hm => ?_, fun hm => ?_⟩
    · rcases nA x hm with r | r | r
      · exact q2 r
      · exact (hd x r).2.2.2.1 hx
      · have := roomm x hx; omega
    · rcases nB x hm with r | r
      · exact q3 r
      · have := roomm x hx; omega
  · refine ⟨fun hm => ?_, fun hm => ?_⟩
    · rcases nA bd hm with r | r | r
      · exact h.a4.1 r
      · exact (hd bd r).1 rfl
      · omega
    · rcases nB bd hm with r | r
      · exact h.a4.2 r
      · omega
  · intro x hx hm
    rcases hm with hm | hm
    · rcases nA x hm with r | r | r
      · exact .inl r
      · exact .inr (.inr r)
      · omega
    · rcases nB x hm with r | r
      · exact .inr (.inl r)
      · omega
end Go.Vc.S9
