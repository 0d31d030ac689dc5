import Derived.Test.YtkkdnnpnbmpifaaS11Same
open Go Go.Vc Go.Proofs
set_option linter.unusedVariables false
set_option linter.unusedSimpArgs false
set_option autoImplicit false
namespace Go.Vc.S11
section
variable {w : World} {R : SV → World → Prop} {N h m : Nat} {S : Hs} {B G : Sl}
/-- pieces that were taken, with their bytes -/
structure Took (w : World) (s : Sl) (tk : List (Int × Sl × Bool)) (ls : List (Int × List Int)) : Prop where
  sees : Sees cPc w s tk
  len : tk.length = ls.length
  each : ∀ j (hj : j < tk.length), tk[j].1 = (ls[j]'(by rw [← len]; exact hj)).1 ∧ SeesB w tk[j].2.1 (ls[j]'(by rw [← len]; exact hj)).2
theorem Took.upd {w1 : World} {s : Sl} {tk : List (Int × Sl × Bool)} {ls : List (Int × List Int)} {ms ns : List Nat} (t : Took w s tk ls) (u : Upd ms ns w w1) (h1 : ∀ x ∈ s.blk, x ∉ ms) (h2 : ∀ p ∈ tk, ∀ x ∈ p.2.1.blk, x ∉ ms) : Took w1 s tk ls :=
  ⟨t.sees.upd u h1, t.len, fun j hj => ⟨(t.each j hj).1, (t.each j hj).2.upd u (h2 _ (List.getElem_mem hj))⟩⟩
theorem Took.old {w1 : World} {s : Sl} {tk : List (Int × Sl × Bool)} {ls : List (Int × List Int)} {ns : List Nat} (t : Took w s tk ls) (u : Upd [] ns w w1) : Took w1 s tk ls := t.upd u (by simp) (by simp)
theorem Took.nil : Took w ⟨none, 0, 0⟩ [] [] := ⟨Sees.nil _ _ _ _, rfl, fun j hj => by simp at hj⟩
theorem Took.snoc {s : Sl} {tk : List (Int × Sl × Bool)} {ls : List (Int × List Int)} {p : Int × Sl × Bool} {l : List Int} (hs : Sees cPc w s (tk ++ [p])) (hl : tk.length = ls.length) (he : ∀ j (hj : j < tk.length), tk[j].1 = (ls[j]'(by rw [← hl]; exact hj)).1 ∧ SeesB w tk[j].2.1 (ls[j]'(by rw [← hl]; exact hj)).2) (hp : SeesB w p.2.1 l) : Took w s (tk ++ [p]) (ls ++ [(p.1, l)]) := by
  refine ⟨hs, by simp [hl], fun j hj => ?_⟩
  by_cases c : j < tk.length
  · simp only [List.getElem_append_left c, List.getElem_append_left (show j < ls.length by omega)]
    exact he j c
  · have : j = tk.length := by simp at hj; omega
    subst this
    have e1 : (tk ++ [p])[tk.length] = p := by simp
    have e2 : (ls ++ [(p.1, l)])[tk.length]'(by simp; omega) = (p.1, l) := by
      simp only [hl, List.getElem_append_right (Nat.le_refl ls.length), Nat.sub_self, List.getElem_singleton]
    rw [e1, e2]
    exact ⟨rfl, hp⟩
/-- what stands at the head of each turn of HoleFirst's loop -/
structure St6 (w0 w : World) (h m : Nat) (mx : Int) (S : Hs) (B G s : Sl) (tk : List (Int × Sl × Bool)) (ls lf : List (Int × List Int)) : Prop where
  g : Good S
  f : First S lf
  hx : S.max = mx
  e : lf = [] → S = ⟨mx, [], [(0, mx)], -1, 0, []⟩
  r : ∀ p ∈ lf, 0 ≤ p.1 ∧ p.1 + p.2.length ≤ 65535
  H : Hol w0.heap.size w h S B G m
  u : Upd [] [] w0 w
  T : Took w s tk ls
  o : Own w0.heap.size 3 w s
  sd : ∀ x ∈ s.blk, x ∉ hblk h B G m
  dd : ∀ p ∈ tk, ∀ x ∈ p.2.1.blk, x < w.heap.size ∧ x ∉ hblk h B G m ∧ x ∉ s.blk
theorem St6.old {w0 w1 : World} {mx : Int} {s : Sl} {tk : List (Int × Sl × Bool)} {ls lf : List (Int × List Int)} {ns : List Nat} (t : St6 w0 w h m mx S B G s tk ls lf) (u : Upd [] ns w w1) : St6 w0 w1 h m mx S B G s tk ls lf :=
  ⟨t.g, t.f, t.hx, t.e, t.r, t.H.old u, t.u.then u, t.T.old u, t.o.old u, t.sd, fun p hp x hx => by have := t.dd p hp x hx; have := u.size; exact ⟨by omega, (t.dd p hp x hx).2⟩⟩
/-- blocks are written that came later -/
theorem St6.over {w0 w' w1 : World} {mx : Int} {s : Sl} {tk : List (Int × Sl × Bool)} {ls lf : List (Int × List Int)} {ms ns : List Nat} (t : St6 w0 w h m mx S B G s tk ls lf) (t' : St6 w0 w' h m mx S B G s tk ls lf) (u : Upd ms ns w' w1) (hm : ∀ x ∈ ms, w.heap.size ≤ x) : St6 w0 w1 h m mx S B G s tk ls lf := by
  have hH : ∀ x ∈ hblk h B G m, x ∉ ms := fun x hx hq => by have := (t.H.lt x hx).2; have := hm x hq; omega
  have hS : ∀ x ∈ s.blk, x ∉ ms := fun x hx hq => by have := (t.o.blk x hx).2; have := hm x hq; omega
  have hD : ∀ p ∈ tk, ∀ x ∈ p.2.1.blk, x ∉ ms := fun p hp x hx hq => by have := (t.dd p hp x hx).1; have := hm x hq; omega
  have z := t.u.size
  exact ⟨t.g, t.f, t.hx, t.e, t.r, t'.H.upd u hH, t'.u.step0 u (fun x hx => by have := hm x hx; omega), t'.T.upd u hS hD, t'.o.upd u hS, t.sd, fun p hp x hx => ⟨by have := (t'.dd p hp x hx).1; have := u.size; omega, (t.dd p hp x hx).2⟩⟩
/-- a piece was taken -/
theorem St6.put {w0 w1 : World} {mx : Int} {B' G' s : Sl} {off : Int} {l : List Int} {more : Bool} {tk : List (Int × Sl × Bool)} {ls lf : List (Int × List Int)} (t : St6 w0 w h m mx S B G s tk ls lf) (he : errS S off l.length more = 0) (hb : Byt l) (V : Upd (hblk h B G m) [] w w1) (H' : Hol w0.heap.size w1 h (putS S off l more) B' G' m) (hn : ∀ x ∈ hblk h B' G' m, x ∈ hblk h B G m ∨ w.heap.size ≤ x) :
    St6 w0 w1 h m mx (putS S off l more) B' G' s tk ls (lf ++ [(off, l)]) := by
  have ob := t.o.blk
  have gb := t.g.mx
  obtain ⟨p1, p2, _, _, p3, p4, p5, p6, p7⟩ := errS_ok he
  refine ⟨t.g.put he hb, t.f.put t.g he hb, t.hx, fun q => by simp at q, fun p hp => ?_, H', t.u.step0 V (fun x hx => (t.H.lt x hx).1), t.T.upd V t.sd (fun p hp x hx => (t.dd p hp x hx).2.1), t.o.upd V t.sd, fun x hx hm => ?_, fun p hp x hx => ?_⟩
  · rcases List.mem_append.1 hp with q | q
    · exact t.r p q
    · rw [List.mem_singleton] at q; subst q; exact ⟨p2, by dsimp only; omega⟩
  · rcases hn x hm with q | q
    · exact t.sd x hx q
    · have := (ob x hx).2; omega
  · have d := t.dd p hp x hx
    have := V.size
    refine ⟨by omega, fun hm => ?_, d.2.2⟩
    rcases hn x hm with q | q
    · exact d.2.1 q
    · omega
/-- .. and noted -/
theorem St6.app {w0 w1 : World} {mx : Int} {s s' : Sl} {p : Int × Sl × Bool} {l : List Int} {tk : List (Int × Sl × Bool)} {ls : List (Int × List Int)} (t : St6 w0 w h m mx S B G s tk ls (ls ++ [(p.1, l)])) (hp : SeesB w p.2.1 l) (hb : ∀ x ∈ p.2.1.blk, x < w.heap.size ∧ x ∉ hblk h B G m ∧ x ∉ s.blk)
    (hs : Sees cPc w1 s' (tk ++ [p])) (ho : Own w0.heap.size 3 w1 s') (V : Upd s.blk [] w w1) (hn : ∀ x ∈ s'.blk, x ∈ s.blk ∨ w.heap.size ≤ x) : St6 w0 w1 h m mx S B G s' (tk ++ [p]) (ls ++ [(p.1, l)]) (ls ++ [(p.1, l)]) := by
  have lt := t.H.lt
  have z := V.size
  refine ⟨t.g, t.f, t.hx, t.e, t.r, t.H.upd V (fun x hx hm => t.sd x hm hx), t.u.step0 V (fun x hx => (t.o.blk x hx).1), Took.snoc hs t.T.len (fun j hj => ⟨(t.T.each j hj).1, (t.T.each j hj).2.upd V (fun x hx => (t.dd _ (List.getElem_mem hj) x hx).2.2)⟩) (hp.upd V (fun x hx => (hb x hx).2.2)), ho, fun x hx hm => ?_, fun q hq x hx => ?_⟩
  · rcases hn x hx with q | q
    · exact t.sd x q hm
    · have := (lt x hm).2; omega
  · have d : x < w.heap.size ∧ x ∉ hblk h B G m ∧ x ∉ s.blk := by
      rcases List.mem_append.1 hq with q' | q'
      · exact t.dd q q' x hx
      · rw [List.mem_singleton] at q'; subst q'; exact hb x hx
    refine ⟨by omega, d.2.1, fun hm => ?_⟩
    rcases hn x hm with q' | q'
    · exact d.2.2 q'
    · omega
end
end Go.Vc.S11
