import Derived.Test.YtlohkdkgpajkaaaDoorS6Bk
import Derived.Test.YtlohkdkgpajkaaaDoorS6TxtL6
import Derived.Test.YtlohkdkgpajkaaaDoorS6Turns
open Go Go.Vc Go.Proofs
set_option linter.unusedVariables false
set_option linter.unusedSimpArgs false
set_option autoImplicit false
namespace Go.Vc.S6
theorem serL_len (v : IpV) : (serL v).length ≤ 65535 := by
  unfold serL
  split
  · rename_i hc
    have hsl := ser_len v
    obtain ⟨_, _, _, _, _, _, _, h8, h9, _⟩ := ipChk_ok hc
    have hr8 := hdL_r h8
    omega
  · simp
section
variable {N : Nat} {w w1 : World} {R : SV → World → Prop}
theorem Dq.lend {p : Nat} {room b : Sl} {l : List Int} (h : Dq N w p room) (hb : SeesB w b l) (hl : l.length ≤ 140737488351232) (hB : ∀ x ∈ b.blk, x < w.heap.size ∧ x ∉ dqB (p, room))
    (k : ∀ room' K w1, Upd (dqB (p, room)) [] w w1 → Dsk N w1 p l K room' → K ≤ 281474976710656 → (∀ x ∈ dqB (p, room'), x ∈ dqB (p, room) ∨ w.heap.size ≤ x) → R (.slice (room'.sub 1 0 (Int.toNat (b.len : Int)) room'.cap)) w1) :
    Ret Tryd.prog 31 [.ptr (some ⟨p, 0, none⟩), .slice b] w R := by
  obtain ⟨n', hx⟩ := h.box
  obtain ⟨L', hL, hLl⟩ := h.sees
  have hle := h.le
  have hbl := hx.lt
  refine c31D (N := N) hx hL h.own h.off hLl (by omega) hb hl (fun x hx => ⟨(hB x hx).1, fun hm => (hB x hx).2 (by simp [dqB, hm]), fun e => (hB x hx).2 (by simp [dqB, e])⟩) fun room' K w1 ms u hms hd hK hn => ?_
  refine k room' K w1 (u.wide (fun x hx => by
    rcases hms x hx with q | q
    · simp [dqB, q]
    · simp [dqB, q])) hd hK (fun x hx => ?_)
  rcases List.mem_cons.1 hx with e | q
  · exact .inl (by simp [dqB, e])
  · rcases hn x q with q | q
    · exact .inr q
    · exact .inl (by simp [dqB, q])
/-- what is carried along -/
structure Bs (N : Nat) (w : World) (c : Nat → Nat) (bk : Nat) (d s s2 : Sl) (os os2 : List (Int × Sl)) (dl : List Int) (l l2 : List Opt) (q : Nat) : Prop where
  dat : SeesB w d dl
  od : Own N 1 w d
  lst : Lst N w s l os
  lst2 : Lst N w s2 l2 os2
  book : ∃ hd, BkAt N w bk q hd ∧ Col c 7 hd
  le : N ≤ bk
  cd : Col c 1 d.blk
  cl : Col c 2 (lstB s os)
  cl2 : Col c 3 (lstB s2 os2)
theorem Bs.next {m nn : List Nat} {c : Nat → Nat} {bk : Nat} {d s s2 : Sl} {os os2 : List (Int × Sl)} {dl : List Int} {l l2 : List Opt} {q : Nat} (h : Bs N w c bk d s s2 os os2 dl l l2 q) (u : Upd m nn w w1) (hm : ∀ x ∈ m, c x ≠ 1 ∧ c x ≠ 2 ∧ c x ≠ 3 ∧ c x ≠ 7) (k : Nat) : Bs N w1 (rc c w.heap.size k) bk d s s2 os os2 dl l l2 q := by
  obtain ⟨hd, hB, hc⟩ := h.book
  have lt := hB.lt h.le
  have o1 : ∀ x ∈ d.blk, x ∉ m := fun x hx hx2 => (hm x hx2).1 (h.cd x hx)
  exact ⟨h.dat.upd u o1, h.od.upd u o1, h.lst.upd u (fun x hx hx2 => (hm x hx2).2.1 (h.cl x hx)), h.lst2.upd u (fun x hx hx2 => (hm x hx2).2.2.1 (h.cl2 x hx)), ⟨hd, hB.upd u (fun x hx hx2 => (hm x hx2).2.2.2 (hc x hx)), hc.rc (fun x hx => (lt x hx).2)⟩, h.le, h.cd.rc (fun x hx => (h.od.blk x hx).2), h.cl.rc (fun x hx => (h.lst.lt x hx).2), h.cl2.rc (fun x hx => (h.lst2.lt x hx).2)⟩
theorem Bs.same {m nn : List Nat} {c : Nat → Nat} {bk : Nat} {d s s2 : Sl} {os os2 : List (Int × Sl)} {dl : List Int} {l l2 : List Opt} {q : Nat} (h : Bs N w c bk d s s2 os os2 dl l l2 q) (u : Upd m nn w w1) (hm : ∀ x ∈ m, c x ≠ 1 ∧ c x ≠ 2 ∧ c x ≠ 3 ∧ c x ≠ 7) : Bs N w1 c bk d s s2 os os2 dl l l2 q := by
  obtain ⟨hd, hB, hc⟩ := h.book
  exact ⟨h.dat.upd u (fun x hx hx2 => (hm x hx2).1 (h.cd x hx)), h.od.upd u (fun x hx hx2 => (hm x hx2).1 (h.cd x hx)), h.lst.upd u (fun x hx hx2 => (hm x hx2).2.1 (h.cl x hx)), h.lst2.upd u (fun x hx hx2 => (hm x hx2).2.2.1 (h.cl2 x hx)), ⟨hd, hB.upd u (fun x hx hx2 => (hm x hx2).2.2.2 (hc x hx)), hc⟩, h.le, h.cd, h.cl, h.cl2⟩
theorem Bs.old {nn : List Nat} {c : Nat → Nat} {bk : Nat} {d s s2 : Sl} {os os2 : List (Int × Sl)} {dl : List Int} {l l2 : List Opt} {q : Nat} (h : Bs N w c bk d s s2 os os2 dl l l2 q) (u : Upd [] nn w w1) : Bs N w1 c bk d s s2 os os2 dl l l2 q := by
  obtain ⟨hd, hB, hc⟩ := h.book
  exact ⟨h.dat.old u, h.od.old u, h.lst.old u, h.lst2.old u, ⟨hd, hB.upd u (by simp), hc⟩, h.le, h.cd, h.cl, h.cl2⟩
def kc (c : Nat → Nat) (z : Nat) (S : List Nat) : Nat → Nat := fun x => if x < z then (if x ∈ S then 7 else c x) else 7
theorem Col.kc {c : Nat → Nat} {j j' z : Nat} {S T : List Nat} (h : Col c j T) (hS : Col c j' S) (h7 : j ≠ j') (hz : ∀ x ∈ T, x < z) : Col (S6.kc c z S) j T := fun x hx => by
  unfold S6.kc
  rw [if_pos (hz x hx), if_neg (h.off hS h7 x hx)]
  exact h x hx
/-- a list more in the book -/
theorem Bs.keep {c : Nat → Nat} {bk j : Nat} {d s s2 : Sl} {os os2 : List (Int × Sl)} {dl : List Int} {l l2 : List Opt} {q : Nat} {g : Sl} {gl : List Int} (h : Bs N w c bk d s s2 os os2 dl l l2 q) (hg : SeesB w g gl) (og : Own N 1 w g) (hc : Col c j g.blk) (hj : 8 ≤ j) (hb : Byt gl) (hl : gl.length ≤ 1000000) (hn : q ≤ 1000000)
    (k : ∀ w1 hd, Upd hd [] w w1 → (∀ x ∈ hd, c x = 7 ∧ N ≤ x ∧ x < w.heap.size) → Bs N w1 (kc c w.heap.size g.blk) bk d s s2 os os2 dl l l2 (q + 1) → R (.tuple []) w1) : Ret Tryd.prog 39 [.ptr (some ⟨bk, 0, none⟩), .slice g] w R := by
  obtain ⟨hd, hB, hcB⟩ := h.book
  have lt := hB.lt h.le
  have hN : N ≤ w.heap.size := by
    obtain ⟨_, _, _, _, _, hB', _⟩ := hB
    have := hB'.box.lt; have := h.le; omega
  refine hB.keep hg og (hc.off hcB (by omega)) hN hb hl hn fun hd' w1 u hB1 nw => k w1 hd u (fun x hx => ⟨hcB x hx, lt x hx⟩) ?_
  have o1 := h.cd.off hcB (by decide)
  refine ⟨h.dat.upd u o1, h.od.upd u o1, h.lst.upd u (h.cl.off hcB (by decide)), h.lst2.upd u (h.cl2.off hcB (by decide)), ⟨hd', hB1, fun x hx => ?_⟩, h.le, h.cd.kc hc (by omega) (fun x hx => (h.od.blk x hx).2), h.cl.kc hc (by omega) (fun x hx => (h.lst.lt x hx).2), h.cl2.kc hc (by omega) (fun x hx => (h.lst2.lt x hx).2)⟩
  unfold kc
  rcases nw x hx with r | r | r
  · rw [if_pos (lt x r).2]
    split
    · rfl
    · exact hcB x r
  · rw [if_pos (og.blk x r).2, if_pos r]
  · rw [if_neg (by omega)]
/-- the desk and the rooms -/
structure Dr (N : Nat) (w : World) (c : Nat → Nat) (bd r1 r2 : Nat) : Prop where
  desk : ∃ room, Dq N w bd room ∧ Col c 4 (dqB (bd, room))
  rm1 : ∃ hd, RmAt N w r1 hd ∧ Col c 5 hd
  rm2 : ∃ hd, RmAt N w r2 hd ∧ Col c 6 hd
theorem Dr.gen {m nn : List Nat} {c c' : Nat → Nat} {bd r1 r2 : Nat} (h : Dr N w c bd r1 r2) (u : Upd m nn w w1) (hm : ∀ x ∈ m, c x ≠ 4 ∧ c x ≠ 5 ∧ c x ≠ 6) (hc : ∀ {S : List Nat} {j : Nat}, Col c j S → (j = 4 ∨ j = 5 ∨ j = 6) → (∀ x ∈ S, x < w.heap.size) → Col c' j S) : Dr N w1 c' bd r1 r2 := by
  obtain ⟨room, a1, a2⟩ := h.desk
  obtain ⟨h1, b1, b2⟩ := h.rm1
  obtain ⟨h2, e1, e2⟩ := h.rm2
  exact ⟨⟨room, a1.upd u (fun x hx hx2 => (hm x hx2).1 (a2 x hx)), hc a2 (.inl rfl) (fun x hx => (a1.lt x hx).2)⟩, ⟨h1, b1.upd u (fun x hx hx2 => (hm x hx2).2.1 (b2 x hx)), hc b2 (.inr (.inl rfl)) (fun x hx => (b1.lt.2 x hx).2)⟩, ⟨h2, e1.upd u (fun x hx hx2 => (hm x hx2).2.2 (e2 x hx)), hc e2 (.inr (.inr rfl)) (fun x hx => (e1.lt.2 x hx).2)⟩⟩
theorem Dr.next {m nn : List Nat} {c : Nat → Nat} {bd r1 r2 : Nat} (h : Dr N w c bd r1 r2) (u : Upd m nn w w1) (hm : ∀ x ∈ m, c x ≠ 4 ∧ c x ≠ 5 ∧ c x ≠ 6) (k : Nat) : Dr N w1 (rc c w.heap.size k) bd r1 r2 := h.gen u hm (fun hS _ hz => hS.rc hz)
theorem Dr.old {nn : List Nat} {c : Nat → Nat} {bd r1 r2 : Nat} (h : Dr N w c bd r1 r2) (u : Upd [] nn w w1) : Dr N w1 c bd r1 r2 := h.gen u (by simp) (fun hS _ _ => hS)
theorem Dr.keep {m nn : List Nat} {c : Nat → Nat} {bd r1 r2 j : Nat} {S : List Nat} (h : Dr N w c bd r1 r2) (u : Upd m nn w w1) (hm : ∀ x ∈ m, c x = 7 ∧ N ≤ x ∧ x < w.heap.size) (hS : Col c j S) (hj : 8 ≤ j) : Dr N w1 (kc c w.heap.size S) bd r1 r2 :=
  h.gen u (fun x hx => by have := (hm x hx).1; omega) (fun hT h7 hz => hT.kc hS (by omega) hz)
end
end Go.Vc.S6
