import Derived.Test.YtmchllbemgnieaaDoorS9TxtL14
import Derived.Test.YtmchllbemgnieaaDoorS9Deep
import Derived.Test.YtmchllbemgnieaaDoorMarkA
open Go Go.Vc Go.Proofs
set_option linter.unusedVariables false
set_option linter.unusedSimpArgs false
set_option autoImplicit false
namespace Go.Vc.S9
theorem c81 {m : Int} {w : World} {R : SV → World → Prop} (k : ∀ s w1, Upd [] [] w w1 → SeesB w1 s (List.replicate 70 m) → Own w.heap.size 1 w1 s → R (.slice s) w1) : Ret Tryd.prog 81 [.int .u8 m] w R := by
  refine f81_of _ _ _ ?_
  unfold vc81
  refine ⟨fun s n w1 => Upd [] [] w w1 ∧ Own w.heap.size 1 w1 s ∧ ∃ t : Nat, n = t ∧ t ≤ 70 ∧ SeesB w1 s (List.replicate t m), fun _ n _ => (70 - n).toNat, ⟨Upd.refl w, Own.none _ _ _, 0, rfl, by omega, Sees.nil _ _ _ _⟩, ?_⟩
  rintro s n w1 ⟨u, o, t, rfl, ht, hs⟩
  refine brd (fun hlt => ?_) (fun hge => ?_)
  · intro b w2 u2 hr2
    have o2 := o.old u2
    refine append_own (c := cU8) (new := [m]) (hs.old u2) o2 (rowB hr2 _ rfl rfl) (u.then u2).size (by simp) (by decide) (by simp; omega) fun r w3 hr ho3 u3 _ => ?_
    refine ⟨⟨(u.then u2).step0 u3 (fun x hx => (o2.blk x hx).1), ho3, t + 1, wr_succ (by omega), by omega, by rw [List.replicate_succ']; exact hr⟩, by rw [wr_succ (q := t) (by omega)]; (try dsimp only); omega⟩
  · have : t = 70 := by omega
    subst this
    exact k s w1 u hs o

/-- a list written full, and lengthened in four ways -/
theorem c41 {b : Sl} {l : List Int} {m : Int} {N : Nat} {w : World} {R : SV → World → Prop} (h : SeesB w b l) (o : Own N 1 w b) (hN : N ≤ w.heap.size) (hl : l.length ≤ 140737488355200)
    (k : ∀ s w1, Upd b.blk [] w w1 → Marks w.heap.size w1.heap.size b.blk w1 s m → R (.slice s) w1) : Ret Tryd.prog 41 [.slice b, .int .u8 m] w R := by
  refine f41_of _ _ _ _ ?_
  unfold vc41
  refine fill_loop (v := m) h o (by omega) rfl (by simp) (fun I M n w w' h1 h2 => ⟨h1, h2⟩) fun w1 u1 hb1 ob1 => ?_
  have hbl := hb1.len
  rw [List.length_replicate] at hbl
  generalize hn : l.length = n at *
  have z1 := u1.size
  intro b1 w2 u2 hr2
  refine app_mk (j := 1) (hb1.old u2) (ob1.old u2) (rowB hr2 _ rfl rfl) (by have := u2.size; omega) (by decide) (by omega) fun g1 w3 k1 l1 p1 hb3 ob3 u3 _ => ?_
  intro b2 w4 u4 hr4
  have k1' : Mk b m w4 g1 := ⟨k1.sees.old u4, k1.place⟩
  refine app_mk (j := 2) (hb3.old u4) (ob3.old u4) (rowB hr4 _ rfl rfl) (by have := u2.size; have := u3.size; have := u4.size; omega) (by decide) (by omega) fun g2 w5 k2 l2 p2 hb5 ob5 u5 t5 => ?_
  have q1 := t5 g1 k1' (by omega)
  intro b3 w6 u6 hr6
  have q1' : Mk b m w6 g1 := ⟨q1.sees.old u6, q1.place⟩
  have k2' : Mk b m w6 g2 := ⟨k2.sees.old u6, k2.place⟩
  have y2 := u2.size; have y3 := u3.size; have y4 := u4.size; have y5 := u5.size; have y6 := u6.size
  refine app_mk (j := 3) (hb5.old u6) (ob5.old u6) (rowB hr6 _ rfl rfl) (by omega) (by decide) (by omega) fun g3 w7 k3 l3 p3 hb7 ob7 u7 t7 => ?_
  have r1 := t7 g1 q1' (by omega)
  have r2 := t7 g2 k2' (by omega)
  have y7 := u7.size
  refine c81 fun f w8 u8 hf hof => ⟨_, rfl, ?_⟩
  have y8 := u8.size
  have r1' : Mk b m w8 g1 := ⟨r1.sees.old u8, r1.place⟩
  have r2' : Mk b m w8 g2 := ⟨r2.sees.old u8, r2.place⟩
  have k3' : Mk b m w8 g3 := ⟨k3.sees.old u8, k3.place⟩
  refine app_mk (j := 70) (hb7.old u8) (ob7.old u8) hf (by omega) (by decide) (by omega) fun g4 w9 k4 l4 p4 hb9 ob9 u9 t9 => ?_
  have s1 := t9 g1 r1' (by omega)
  have s2 := t9 g2 r2' (by omega)
  have s3 := t9 g3 k3' (by omega)
  have y9 := u9.size
  intro b4 w10 u10 hr10
  have n10 := u10.new (b := b4) (by simp)
  have y10 := u10.size
  have hP := rowP (n := 5) (cap := 5) hr10 (ss := [b, g1, g2, g3, g4]) rfl rfl (ls := [List.replicate n m, List.replicate g1.len m, List.replicate g2.len m, List.replicate g3.len m, List.replicate g4.len m]) ⟨hb9.old u10, s1.sees.old u10, s2.sees.old u10, s3.sees.old u10, k4.sees.old u10, trivial⟩
  have uu : Upd b.blk [] w w10 := (((((((u1.step u2 (by simp)).step u3 (fun x hx => .inr hx)).step u4 (by simp)).step u5 (fun x hx => .inr hx)).step u6 (by simp)).step u7 (fun x hx => .inr hx)).step u8 (by simp)).step u9 (fun x hx => .inr hx) |>.step u10 (by simp)
  refine k _ w10 uu ⟨⟨_, _, hP, ?_, ?_, ?_⟩, by simp [Sl.blk]; omega, by simp⟩
  · intro l' hl' x hx
    simp at hl'
    rcases hl' with rfl | rfl | rfl | rfl | rfl <;> exact (List.eq_of_mem_replicate hx)
  · intro l' hl'
    simp at hl'
    rcases hl' with rfl | rfl | rfl | rfl | rfl <;> simp <;> omega
  · intro g hg x hx
    simp at hg
    rcases hg with rfl | rfl | rfl | rfl | rfl
    · exact .inl hx
    · exact (p1 x hx).imp id (fun q => by omega)
    · exact (p2 x hx).imp id (fun q => by omega)
    · exact (p3 x hx).imp id (fun q => by omega)
    · exact (p4 x hx).imp id (fun q => by omega)

theorem c42 {s : Sl} {m : Int} {lo hi : Nat} {bb : List Nat} {w : World} {R : SV → World → Prop} (h : Marks lo hi bb w s m) (k : R (.bool true) w) : Ret Tryd.prog 42 [.slice s, .int .u8 m] w R := by
  refine f42_of _ _ _ _ ?_
  unfold vc42
  obtain ⟨⟨ls, gs, hP, hm, hsz, _⟩, _, h5⟩ := h
  have hsl := hP.slen
  refine ⟨fun i w1 => w1 = w ∧ ∃ t : Nat, i = t ∧ t ≤ ls.length, fun i _ => (ls.length - i).toNat, ⟨rfl, 0, rfl, by omega⟩, ?_⟩
  rintro i w1 ⟨rfl, t, rfl, ht⟩
  refine brd (fun hlt => ?_) (fun hge => k)
  have ht2 : t < ls.length := by omega
  obtain ⟨g1, g2, hc, hs, hp⟩ := hP.get (i := (t : Int)) (by omega) (by omega)
  simp only [Int.toNat_natCast] at g1 g2 hc hs
  have hz := hsz _ (List.getElem_mem g2)
  have hlen := hs.len
  refine ⟨fun j w2 => w2 = w1 ∧ ∃ q : Nat, j = q ∧ q ≤ ls[t].length, fun j _ => (ls[t].length - j).toNat, ⟨rfl, 0, rfl, by omega⟩, ?_⟩
  rintro j w2 ⟨rfl, q, rfl, hq⟩
  refine needP hP (by omega) (by omega) ⟨_, (show w2.cell? (s.at 1 t) = _ from hc), ?_⟩
  refine brd (fun hlt2 => ?_) (fun hge2 => ?_)
  · refine needP hP (by omega) (by omega) ⟨_, (show w2.cell? (s.at 1 t) = _ from hc), needB hs (by omega) (by omega) ⟨_, hs.byte (by omega) (by omega), ?_⟩⟩
    have hq2 : q < ls[t].length := by omega
    have : bt ls[t] (q : Int) = m := by rw [bt_nat hq2]; exact hm _ (List.getElem_mem g2) _ (List.getElem_mem hq2)
    rw [this]
    exact brf (by simp) ⟨⟨rfl, q + 1, wr_succ (by omega), by omega⟩, by rw [wr_succ (q := q) (by omega)]; (try dsimp only); omega⟩
  · exact ⟨⟨rfl, t + 1, wr_succ (by omega), by omega⟩, by rw [wr_succ (q := t) (by omega)]; (try dsimp only); omega⟩
end Go.Vc.S9
