import Derived.Test.YtlohkdkgpajkaaaDoorS6Dsk2
open Go Go.Vc Go.Proofs
set_option linter.unusedVariables false
set_option linter.unusedSimpArgs false
set_option autoImplicit false
namespace Go.Vc.S6
def cPt : Cod Nat := ⟨1, fun p => [.pointer (some ⟨p, 0, none⟩)], fun _ => rfl, by simp [Value.oneCell']⟩
/-- a desk, whatever lies on it -/
structure Dq (N : Nat) (w : World) (p : Nat) (room : Sl) : Prop where
  box : ∃ n, Bx w p [.sl room, .int n]
  sees : ∃ L, SeesB w room L ∧ L.length ≤ 281474976710656
  own : Own N 1 w room
  off : p ∉ room.blk
  le : N ≤ p
def dqB (d : Nat × Sl) : List Nat := d.1 :: d.2.blk
structure Rm (N : Nat) (w : World) (br : Nat) (L D : Sl) (n : Int) (lc : List (Int × Sl)) (ds : List (Nat × Sl)) : Prop where
  box : Bx w br [.sl L, .int n, .sl D]
  le : N ≤ br
  lrow : Sees cOpt w L lc
  lown : Own N 2 w L
  llen : lc.length ≤ 8796093022208
  drow : Sees cPt w D (ds.map Prod.fst)
  down : Own N 1 w D
  dlen : ds.length ≤ 4398046511000
  desk : ∀ d ∈ ds, Dq N w d.1 d.2
  dis : ∀ i j (hi : i < ds.length) (hj : j < ds.length), i ≠ j → ∀ b ∈ dqB ds[i], b ∉ dqB ds[j]
  base : br ∉ L.blk ∧ br ∉ D.blk ∧ ∀ b ∈ L.blk, b ∉ D.blk
  offd : ∀ d ∈ ds, ∀ b ∈ dqB d, b ≠ br ∧ b ∉ L.blk ∧ b ∉ D.blk
def rmB (br : Nat) (L D : Sl) (ds : List (Nat × Sl)) : List Nat := br :: (L.blk ++ (D.blk ++ ds.flatMap dqB))
theorem rmB_mem {br : Nat} {L D : Sl} {ds : List (Nat × Sl)} {x : Nat} : x ∈ rmB br L D ds ↔ x = br ∨ x ∈ L.blk ∨ x ∈ D.blk ∨ ∃ d ∈ ds, x ∈ dqB d := by simp [rmB]
theorem at_blk {s : Sl} (h : s.ptr.isSome = true) (k i : Nat) : (s.at k i).block ∈ s.blk := by
  obtain ⟨a, ha⟩ := Option.isSome_iff_exists.1 h
  simp [Sl.at, ha, Sl.blk, add_block]
theorem at_blk1 {s : Sl} (h : s.ptr.isSome = true) (k i j : Nat) : ((s.at k i).add j).block ∈ s.blk := by
  rw [add_block]
  exact at_blk h k i
section
variable {N br : Nat} {w w1 : World} {L D : Sl} {n : Int} {lc : List (Int × Sl)} {ds : List (Nat × Sl)} {R : SV → World → Prop}
theorem Dq.upd {m nn : List Nat} {p : Nat} {room : Sl} (h : Dq N w p room) (u : Upd m nn w w1) (hm : ∀ b ∈ dqB (p, room), b ∉ m) : Dq N w1 p room := by
  obtain ⟨n, hb⟩ := h.box
  obtain ⟨L, hL, hl⟩ := h.sees
  have h1 : p ∉ m := hm p (by simp [dqB])
  have h2 : ∀ b ∈ room.blk, b ∉ m := fun b hb => hm b (by simp [dqB, hb])
  exact ⟨⟨n, hb.upd u h1⟩, ⟨L, hL.upd u h2, hl⟩, h.own.upd u h2, h.off, h.le⟩
theorem Dq.lt {p : Nat} {room : Sl} (h : Dq N w p room) : ∀ b ∈ dqB (p, room), N ≤ b ∧ b < w.heap.size := fun b hb => by
  obtain ⟨n, hx⟩ := h.box
  rcases List.mem_cons.1 hb with rfl | q
  · exact ⟨h.le, hx.lt⟩
  · exact h.own.blk b q
theorem Dq.ofDsk {p K : Nat} {room : Sl} {l : List Int} (h : Dsk N w p l K room) (hK : K ≤ 281474976710656) (hN : N ≤ p) : Dq N w p room :=
  ⟨⟨_, h.box⟩, ⟨_, h.sees, by have := h.le; simp [dmks_len]; omega⟩, h.own, h.off, hN⟩
theorem Rm.upd {m nn : List Nat} (h : Rm N w br L D n lc ds) (u : Upd m nn w w1) (hm : ∀ x ∈ rmB br L D ds, x ∉ m) : Rm N w1 br L D n lc ds :=
  have h1 : br ∉ m := hm br (rmB_mem.2 (.inl rfl))
  have h2 : ∀ b ∈ L.blk, b ∉ m := fun b hb => hm b (rmB_mem.2 (.inr (.inl hb)))
  have h3 : ∀ b ∈ D.blk, b ∉ m := fun b hb => hm b (rmB_mem.2 (.inr (.inr (.inl hb))))
  ⟨h.box.upd u h1, h.le, h.lrow.upd u h2, h.lown.upd u h2, h.llen, h.drow.upd u h3, h.down.upd u h3, h.dlen, fun d hd => (h.desk d hd).upd u (fun b hb => hm b (rmB_mem.2 (.inr (.inr (.inr ⟨d, hd, hb⟩))))), h.dis, h.base, h.offd⟩
theorem Rm.old {nn : List Nat} (h : Rm N w br L D n lc ds) (u : Upd [] nn w w1) : Rm N w1 br L D n lc ds := h.upd u (by simp)
theorem Rm.lt (h : Rm N w br L D n lc ds) : ∀ x ∈ rmB br L D ds, N ≤ x ∧ x < w.heap.size := fun x hx => by
  rcases rmB_mem.1 hx with rfl | q | q | ⟨d, hd, q⟩
  · exact ⟨h.le, h.box.lt⟩
  · exact h.lown.blk x q
  · exact h.down.blk x q
  · exact (h.desk d hd).lt x q
/-- a place of the list is written -/
theorem Rm.setL {i : Nat} {y : Int × Sl} {vs : List Value} {F : World → Prop} (h : Rm N w br L D n lc ds) (hi : i < lc.length) (hvs : vs = cOpt.enc y) (k : ∀ w1, Rm N w1 br L D n (lc.set i y) ds → Upd L.blk [] w w1 → F w1) : Store w (L.at 2 i) vs [] F := by
  refine own_set (c := cOpt) (i := i) (x := y) h.lrow h.lown (by decide) hi hvs (by simp) fun w1 h1 o1 u1 => ?_
  exact k w1 ⟨h.box.upd u1 h.base.1, h.le, h1, o1, by rw [List.length_set]; exact h.llen, h.drow.upd u1 (fun b hb hm => h.base.2.2 b hm hb), h.down.upd u1 (fun b hb hm => h.base.2.2 b hm hb), h.dlen, fun d hd => (h.desk d hd).upd u1 (fun b hb => (h.offd d hd b hb).2.1), h.dis, h.base, h.offd⟩ u1
/-- bytes are lent on a desk -/
theorem Rm.lend {i : Nat} {b : Sl} {l : List Int} (h : Rm N w br L D n lc ds) (hi : i < ds.length) (hb : SeesB w b l) (hl : l.length ≤ 140737488351232) (hB : ∀ x ∈ b.blk, x < w.heap.size ∧ x ∉ rmB br L D ds)
    (k : ∀ room' K w1, Upd (dqB ds[i]) [] w w1 → Rm N w1 br L D n lc (ds.set i (ds[i].1, room')) → Dsk N w1 ds[i].1 l K room' → K ≤ 281474976710656 → (∀ x ∈ room'.blk, w.heap.size ≤ x ∨ x ∈ ds[i].2.blk) → R (.slice (room'.sub 1 0 (Int.toNat (b.len : Int)) room'.cap)) w1) :
    Ret Tryd.prog 31 [.ptr (some ⟨ds[i].1, 0, none⟩), .slice b] w R := by
  have mem := List.getElem_mem hi
  obtain ⟨n', hx⟩ := (h.desk _ mem).box
  obtain ⟨L', hL, hLl⟩ := (h.desk _ mem).sees
  have hlt := (h.desk _ mem).lt
  have hbl := h.box.lt
  have hle := h.le
  have inB : ∀ x ∈ dqB ds[i], x ∈ rmB br L D ds := fun x hx => rmB_mem.2 (.inr (.inr (.inr ⟨_, mem, hx⟩)))
  refine c31D (N := N) hx hL (h.desk _ mem).own (h.desk _ mem).off hLl (by omega) hb hl (fun x hx => ⟨(hB x hx).1, fun hm => (hB x hx).2 (inB x (by simp [dqB, hm])), fun e => (hB x hx).2 (inB x (by simp [dqB, e]))⟩) fun room' K w1 ms u hms hd hK hn => ?_
  have u' : Upd (dqB ds[i]) [] w w1 := u.wide (fun x hx => by
    rcases hms x hx with q | q
    · simp [dqB, q]
    · simp [dqB, q])
  have nw : ∀ x ∈ dqB (ds[i].1, room'), x ∈ dqB ds[i] ∨ w.heap.size ≤ x := fun x hx => by
    rcases List.mem_cons.1 hx with e | q
    · exact .inl (by simp [dqB, e])
    · rcases hn x q with q | q
      · exact .inr q
      · exact .inl (by simp [dqB, q])
  have od := h.offd _ mem
  refine k room' K w1 u' ⟨h.box.upd u' (fun hm => (od _ hm).1 rfl), h.le, h.lrow.upd u' (fun b hb hm => (od b hm).2.1 hb), h.lown.upd u' (fun b hb hm => (od b hm).2.1 hb), h.llen, ?_, h.down.upd u' (fun b hb hm => (od b hm).2.2 hb), by rw [List.length_set]; exact h.dlen, fun d hd2 => ?_, fun a c ha hc hne x hxa hxc => ?_, h.base, fun d hd2 x hx => ?_⟩ hd hK hn
  · have e : (ds.set i (ds[i].1, room')).map Prod.fst = ds.map Prod.fst := by
      apply List.ext_getElem
      · simp
      · intro j h1 h2
        simp only [List.getElem_map, List.getElem_set]
        split
        · rename_i e; subst e; rfl
        · rfl
    rw [e]
    exact h.drow.upd u' (fun b hb hm => (od b hm).2.2 hb)
  · obtain ⟨j, hj, rfl⟩ := List.getElem_of_mem hd2
    rw [List.length_set] at hj
    by_cases e : i = j
    · subst e
      rw [List.getElem_set_self]
      exact Dq.ofDsk hd hK (h.desk _ mem).le
    · rw [List.getElem_set_ne e]
      exact (h.desk _ (List.getElem_mem hj)).upd u' (h.dis j i hj hi (fun e' => e e'.symm))
  · rw [List.length_set] at ha hc
    by_cases ea : i = a
    · subst ea
      rw [List.getElem_set_self] at hxa
      rw [List.getElem_set_ne hne] at hxc
      rcases nw x hxa with q | q
      · exact h.dis i c ha hc hne x q hxc
      · have := (h.desk _ (List.getElem_mem hc)).lt x hxc; omega
    · rw [List.getElem_set_ne ea] at hxa
      by_cases ec : i = c
      · subst ec
        rw [List.getElem_set_self] at hxc
        rcases nw x hxc with q | q
        · exact h.dis a i ha hc hne x hxa q
        · have := (h.desk _ (List.getElem_mem ha)).lt x hxa; omega
      · rw [List.getElem_set_ne ec] at hxc
        exact h.dis a c ha hc hne x hxa hxc
  · obtain ⟨j, hj, rfl⟩ := List.getElem_of_mem hd2
    rw [List.length_set] at hj
    by_cases e : i = j
    · subst e
      rw [List.getElem_set_self] at hx
      rcases nw x hx with q | q
      · exact od x q
      · have a1 := h.box.lt
        refine ⟨by omega, fun hm => ?_, fun hm => ?_⟩
        · have := (h.lown.blk x hm).2; omega
        · have := (h.down.blk x hm).2; omega
    · rw [List.getElem_set_ne e] at hx
      exact h.offd _ (List.getElem_mem hj) x hx
end
end Go.Vc.S6
