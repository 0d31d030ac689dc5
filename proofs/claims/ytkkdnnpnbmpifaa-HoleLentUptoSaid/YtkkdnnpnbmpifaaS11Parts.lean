import Derived.Test.YtkkdnnpnbmpifaaS11Eq
import Derived.Test.YtkkdnnpnbmpifaaS11Came
open Go Go.Vc Go.Proofs
set_option linter.unusedVariables false
set_option linter.unusedSimpArgs false
set_option autoImplicit false
namespace Go.Vc.S11
/-- pieces up to a place -/
structure CutTo (D : List Int) (ls : List (Int × List Int × Bool)) (at_ : Nat) : Prop where
  each : ∀ p ∈ ls, 0 ≤ p.1 ∧ p.1 % 8 = 0 ∧ 0 < p.2.1.length ∧ p.1 + p.2.1.length ≤ D.length ∧ p.2.1 = (D.drop p.1.toNat).take p.2.1.length ∧ p.2.2 = decide (p.1 + p.2.1.length < D.length) ∧ (p.2.2 = true → p.2.1.length % 8 = 0)
  cov : ∀ i, 0 ≤ i → i < (at_ : Int) → ∃ (k : Nat) (p : Int × List Int × Bool), ls[k]? = some p ∧ p.1 ≤ i ∧ i < p.1 + p.2.1.length
  apart : ls.Pairwise fun (p q : Int × List Int × Bool) => p.1 + (p.2.1.length : Int) ≤ q.1
  le : ∀ p ∈ ls, p.1 + (p.2.1.length : Int) ≤ at_
theorem CutTo.nil (D : List Int) : CutTo D [] 0 := ⟨by simp, fun i h0 h1 => by omega, List.Pairwise.nil, by simp⟩
theorem CutTo.done {D : List Int} {ls : List (Int × List Int × Bool)} (c : CutTo D ls D.length) : Cutting D ls := ⟨c.each, c.cov, c.apart⟩
theorem CutTo.snoc {D : List Int} {ls : List (Int × List Int × Bool)} {a n : Nat} (c : CutTo D ls a) (h8 : a % 8 = 0) (hn : 0 < n) (hl : a + n ≤ D.length) (h : a + n < D.length → n % 8 = 0) : CutTo D (ls ++ [((a : Int), (D.drop a).take n, decide (((a + n : Nat) : Int) < D.length))]) (a + n) := by
  have e : ((D.drop a).take n).length = n := by simp; omega
  refine ⟨fun p hp => ?_, fun i h0 h1 => ?_, List.pairwise_append.2 ⟨c.apart, List.pairwise_singleton _ _, fun p hp q hq => ?_⟩, fun p hp => ?_⟩
  · rcases List.mem_append.1 hp with q | q
    · exact c.each p q
    · rw [List.mem_singleton] at q
      subst q
      dsimp only
      rw [e]
      refine ⟨by omega, by omega, hn, by omega, by rw [Int.toNat_natCast], by simp, fun x => ?_⟩
      have := of_decide_eq_true x
      exact h (by omega)
  · rcases Int.lt_or_le i a with q | q
    · obtain ⟨k, p, hk, z⟩ := c.cov i h0 q
      exact ⟨k, p, by rw [List.getElem?_append_left (List.getElem?_eq_some_iff.1 hk).1]; exact hk, z⟩
    · exact ⟨ls.length, _, by rw [List.getElem?_append_right (Nat.le_refl _), Nat.sub_self]; rfl, by dsimp only; omega, by dsimp only; rw [e]; omega⟩
  · rw [List.mem_singleton] at hq
    subst hq
    exact c.le p hp
  · rcases List.mem_append.1 hp with q | q
    · have := c.le p q; omega
    · rw [List.mem_singleton] at q
      subst q
      dsimp only
      rw [e]
      omega
/-- pieces in memory -/
structure Pcs (w : World) (s : Sl) (db : List Nat) (tk : List (Int × Sl × Bool)) (ls : List (Int × List Int × Bool)) : Prop where
  sees : Sees cPc w s tk
  len : tk.length = ls.length
  each : ∀ (j : Nat) (p : Int × Sl × Bool), tk[j]? = some p → ∃ q, ls[j]? = some q ∧ p.1 = q.1 ∧ p.2.2 = q.2.2 ∧ SeesB w p.2.1 q.2.1 ∧ p.2.1.len ≤ p.2.1.cap ∧ ∀ x ∈ p.2.1.blk, x ∈ db
theorem Pcs.nil (w : World) (db : List Nat) : Pcs w ⟨none, 0, 0⟩ db [] [] := ⟨Sees.nil _ _ _ _, rfl, by simp⟩
theorem Pcs.upd {w w1 : World} {s : Sl} {db ms ns : List Nat} {tk : List (Int × Sl × Bool)} {ls : List (Int × List Int × Bool)} (h : Pcs w s db tk ls) (u : Upd ms ns w w1) (h1 : ∀ x ∈ s.blk, x ∉ ms) (h2 : ∀ x ∈ db, x ∉ ms) : Pcs w1 s db tk ls :=
  ⟨h.sees.upd u h1, h.len, fun j p hp => by
    obtain ⟨q, a, b, c, d, e, f⟩ := h.each j p hp
    exact ⟨q, a, b, c, d.upd u (fun x hx => h2 x (f x hx)), e, f⟩⟩
theorem Pcs.old {w w1 : World} {s : Sl} {db ns : List Nat} {tk : List (Int × Sl × Bool)} {ls : List (Int × List Int × Bool)} (h : Pcs w s db tk ls) (u : Upd [] ns w w1) : Pcs w1 s db tk ls := h.upd u (by simp) (by simp)
theorem Pcs.snoc {w w1 : World} {s s' : Sl} {db : List Nat} {tk : List (Int × Sl × Bool)} {ls : List (Int × List Int × Bool)} {p : Int × Sl × Bool} {q : Int × List Int × Bool} (h : Pcs w s db tk ls) (u : Upd s.blk [] w w1) (hd : ∀ x ∈ db, x ∉ s.blk) (hs : Sees cPc w1 s' (tk ++ [p])) (e1 : p.1 = q.1) (e2 : p.2.2 = q.2.2) (e3 : SeesB w p.2.1 q.2.1) (e4 : p.2.1.len ≤ p.2.1.cap) (e5 : ∀ x ∈ p.2.1.blk, x ∈ db) : Pcs w1 s' db (tk ++ [p]) (ls ++ [q]) := by
  refine ⟨hs, by simp [h.len], fun j x hx => ?_⟩
  by_cases c : j < tk.length
  · rw [List.getElem?_append_left c] at hx
    obtain ⟨y, a, b, c', d, e, f⟩ := h.each j x hx
    exact ⟨y, by rw [List.getElem?_append_left (by rw [← h.len]; exact c)]; exact a, b, c', d.upd u (fun z hz => hd z (f z hz)), e, f⟩
  · have hj : j = tk.length := by
      have := (List.getElem?_eq_some_iff.1 hx).1
      simp at this; omega
    subst hj
    rw [List.getElem?_append_right (Nat.le_refl _), Nat.sub_self] at hx
    have : p = x := by simpa using hx
    subst this
    exact ⟨q, by rw [h.len, List.getElem?_append_right (Nat.le_refl _), Nat.sub_self]; rfl, e1, e2, e3.upd u (fun z hz => hd z (e5 z hz)), e4, e5⟩
section
variable {w : World} {R : SV → World → Prop}
theorem iand7 (n : Int) : iand .i64 n 7 = n % 8 := by
  have := iand_mask (a := n) 3 (by omega)
  simpa using this
theorem c17 {data cuts : Sl} {D cs : List Int} (hd : SeesB w data D) (hc : data.len ≤ data.cap) (hcs : Sees cI64 w cuts cs) (hD : D.length ≤ 4096) (hn : cs.length ≤ 90)
    (hdl : ∀ x ∈ data.blk, x < w.heap.size)
    (k : ∀ s tk ls w1, Upd [] [] w w1 → Cutting D ls → Pcs w1 s data.blk tk ls → ls.length ≤ 100 → Own w.heap.size 3 w1 s → R (.slice s) w1) : Ret Try.prog 17 [.slice data, .slice cuts] w R := by
  refine f17_of _ _ _ _ ?_
  unfold vc17
  have hdlen := hd.len
  have hcl := hcs.len
  refine ⟨fun s n i w' => ∃ (tk : List (Int × Sl × Bool)) (ls : List (Int × List Int × Bool)) (a t : Nat), Upd [] [] w w' ∧ n = a ∧ i = t ∧ tk.length = t ∧ CutTo D ls a ∧ Pcs w' s data.blk tk ls ∧ Own w.heap.size 3 w' s ∧ (a % 8 = 0 ∨ a = D.length) ∧ a ≤ D.length ∧ (a < D.length → t ≤ cs.length) ∧ t ≤ 91, fun _ n _ _ => (D.length - n).toNat, ⟨[], [], 0, 0, Upd.refl w, rfl, rfl, rfl, CutTo.nil D, Pcs.nil w _, Own.none _ _ _, .inl rfl, by omega, by omega, by omega⟩, ?_⟩
  rintro s n i w1 ⟨tk, ls, a, t, u, rfl, rfl, ht, ct, pc, ow, h8, hal, hat, ht91⟩
  have hsl := pc.sees.len
  have hpl := pc.len
  intro J hJ
  refine brd (fun hlt => brd (fun hlt2 => ?_) (fun hge2 => by omega)) (fun hge => ?_)
  · refine hJ _ ?_
    clear hJ
    intro J1 hJ1 J2 hJ2
    have hat := hat (by omega)
    have step : ∀ m : Nat, 0 < m → a + m ≤ D.length → (a + m < D.length → m % 8 = 0 ∧ t < cs.length) → J2 m w1 := by
      intro m hm1 hm2 hm3
      refine hJ2 _ _ ?_
      clear hJ2
      have e1 : wr .i64 ((a : Int) + (m : Int)) = ((a + m : Nat) : Int) := by rw [wr_i64 (by omega) (by omega)]; omega
      rw [e1]
      simp only [Int.toNat_natCast]
      refine needSl (by omega) (by omega) (by omega) (by omega) fun b w2 u2 hr2 => ?_
      have v2 := u.then u2
      have n2 := u2.new (b := b) (by simp)
      have pc2 := pc.old u2
      have hdis : ∀ x ∈ data.blk, x ∉ s.blk := fun x hx hm => by have := hdl x hx; have := (ow.blk x hm).1; omega
      have hwin : SeesB w2 (data.sub 1 a (a + m) data.cap) ((D.take (a + m)).drop a) := (hd.old v2).subB (by omega) (by omega) (by omega)
      rw [List.drop_take, show a + m - a = m by omega] at hwin
      refine append_own (c := cPc) (new := [((a : Int), data.sub 1 a (a + m) data.cap, decide (((a + m : Nat) : Int) < (data.len : Int)))]) pc2.sees (ow.old u2) (sees_row hr2 _ rfl rfl) v2.size (by simp) (by decide) (by simp; omega) fun r w3 hr3 ho3 u3 hb3 => ?_
      have v3 : Upd [] [] w w3 := v2.step0 u3 (fun x hx => (ow.blk x hx).1)
      refine hJ1 _ _ _ ⟨⟨_, _, a + m, t + 1, v3, rfl, wr_succ (by omega), by simp [ht], ct.snoc (by omega) hm1 hm2 (fun q => (hm3 q).1), pc2.snoc u3 hdis hr3 rfl (by dsimp only; rw [hdlen]) hwin (by simp [Sl.sub]; omega) (fun x hx => sub_blk x hx), ho3, ?_, hm2, fun q => by have := (hm3 q).2; omega, by omega⟩, ?_⟩
      · rcases Nat.lt_or_ge (a + m) D.length with q | q
        · left; have := (hm3 q).1; omega
        · right; omega
      · (try dsimp only); omega
    clear hJ2 hJ1
    have rest : J2 (wr .i64 ((data.len : Int) - (a : Int))) w1 := by
      have := step (D.length - a) (by omega) (by omega) (by omega)
      rw [wr_i64 (by omega) (by omega)]
      rwa [show ((D.length - a : Nat) : Int) = (data.len : Int) - (a : Int) by omega] at this
    refine brd (fun hi => ?_) (fun _ => rest)
    have hcs1 := hcs.old u
    refine needI hcs1 (by omega) (by omega) ⟨_, intAt hcs1 _ (by rw [Int.toNat_natCast]; omega), ?_⟩
    rw [iand7]
    generalize cs[Int.toNat (t : Int)]'(by rw [Int.toNat_natCast]; omega) = v
    have e2 : wr .i64 (8 * wr .i64 (1 + v % 8)) = ((8 * (1 + v % 8).toNat : Nat) : Int) := by
      rw [wr_i64 (x := 1 + v % 8) (by omega) (by omega), wr_i64 (by omega) (by omega)]; omega
    rw [e2, wr_i64 (x := (data.len : Int) - (a : Int)) (by omega) (by omega)]
    rw [wr_i64 (x := (data.len : Int) - (a : Int)) (by omega) (by omega)] at rest
    refine brd (fun hlt3 => ?_) (fun _ => rest)
    exact step (8 * (1 + v % 8).toNat) (by omega) (by omega) (fun _ => ⟨by omega, by omega⟩)
  · have : a = D.length := by omega
    subst this
    exact k s tk ls w1 u ct.done pc (by omega) ow
end
end Go.Vc.S11
