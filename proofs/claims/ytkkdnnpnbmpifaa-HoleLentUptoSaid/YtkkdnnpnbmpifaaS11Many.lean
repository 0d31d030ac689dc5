import Derived.Test.YtkkdnnpnbmpifaaS11Came
open Go Go.Vc Go.Proofs
set_option linter.unusedVariables false
set_option linter.unusedSimpArgs false
set_option autoImplicit false
namespace Go.Vc.S11
/-! ### two lists of holes that hold the same places are the same -/
theorem inG_mem {i : Int} : ∀ {l : List (Int × Int)}, inG i l = true → ∃ g ∈ l, g.1 ≤ i ∧ i < g.2
  | g :: r, h => by
    simp only [inG, Bool.or_eq_true, Bool.and_eq_true, decide_eq_true_eq] at h
    rcases h with h | h
    · exact ⟨g, by simp, h⟩
    · obtain ⟨y, hy, z⟩ := inG_mem h
      exact ⟨y, List.mem_cons_of_mem _ hy, z⟩
theorem inG_of {i : Int} : ∀ {l : List (Int × Int)} {g : Int × Int}, g ∈ l → g.1 ≤ i → i < g.2 → inG i l = true
  | x :: r, g, hg, h1, h2 => by
    simp only [inG, Bool.or_eq_true, Bool.and_eq_true, decide_eq_true_eq]
    rcases List.mem_cons.1 hg with rfl | hg
    · exact .inl ⟨h1, h2⟩
    · exact .inr (inG_of hg h1 h2)
theorem rise_eq {t1 t2 : Int} : ∀ {l l' : List (Int × Int)} {b : Int}, Rise t1 b l → Rise t2 b l' → (∀ i, inG i l = inG i l') → l = l'
  | [], [], _, _, _, _ => rfl
  | [], g :: r, b, _, h, e => by
    have := e g.1
    rw [inG_of (l := g :: r) (g := g) (by simp) (Int.le_refl _) h.2.1] at this
    cases this
  | g :: r, [], b, h, _, e => by
    have := e g.1
    rw [inG_of (l := g :: r) (g := g) (by simp) (Int.le_refl _) h.2.1] at this
    cases this
  | g :: r, g' :: r', b, ⟨a1, a2, a3, a4⟩, ⟨b1, b2, b3, b4⟩, e => by
    have low : ∀ {t : Int} {x : Int × Int} {q : List (Int × Int)} {i : Int}, x.1 < x.2 → Rise t x.2 q → inG i (x :: q) = true → x.1 ≤ i ∧ (i < x.2 ∨ (x.2 < i ∧ inG i q = true)) := by
      intro t x q i h1 h2 h
      simp only [inG, Bool.or_eq_true, Bool.and_eq_true, decide_eq_true_eq] at h
      rcases h with h | h
      · exact ⟨h.1, .inl h.2⟩
      · have : x.2 < i := by
          rcases Int.lt_or_le x.2 i with c | c
          · exact c
          · rw [inG_low h2 c] at h; cases h
        exact ⟨by omega, .inr ⟨this, h⟩⟩
    have f1 : g'.1 ≤ g.1 := (low b2 b4 (by rw [← e]; exact inG_of (g := g) (by simp) (Int.le_refl _) a2)).1
    have f2 : g.1 ≤ g'.1 := (low a2 a4 (by rw [e]; exact inG_of (g := g') (by simp) (Int.le_refl _) b2)).1
    have f3 : ¬ g.2 < g'.2 := fun h => by
      have h1 := inG_of (l := g' :: r') (g := g') (i := g.2) (by simp) (by omega) h
      rw [← e] at h1
      rcases (low a2 a4 h1).2 with q | q
      · omega
      · omega
    have f4 : ¬ g'.2 < g.2 := fun h => by
      have h1 := inG_of (l := g :: r) (g := g) (i := g'.2) (by simp) (by omega) h
      rw [e] at h1
      rcases (low b2 b4 h1).2 with q | q
      · omega
      · omega
    have eg : g = g' := Prod.ext (by omega) (by omega)
    subst eg
    congr 1
    refine rise_eq a4 b4 fun i => ?_
    rcases Int.lt_or_le g.2 i with c | c
    · have := e i
      simp only [inG] at this
      rw [decide_eq_false (show ¬ i < g.2 by omega)] at this
      simpa using this
    · rw [inG_low a4 c, inG_low b4 c]
/-! ### all places new -/
theorem newN_all {top off e : Int} (hoe : off < e) : ∀ {l : List (Int × Int)} {b : Int}, Rise top b l → b < off → (∀ i, off ≤ i → i < e → inG i l = true) → newN off e l = e - off
  | [], _, _, _, h => by have := h off (by omega) hoe; cases this
  | g :: r, b, ⟨h1, h2, h3, h4⟩, hb, h => by
    unfold newN
    have h0 := h off (by omega) hoe
    simp only [inG, Bool.or_eq_true, Bool.and_eq_true, decide_eq_true_eq] at h0
    split
    · rcases h0 with q | q
      · omega
      · have := inG_low (i := off) h4 (by omega)
        rw [this] at q; cases q
    · split
      · rename_i q1 q2
        refine newN_all hoe h4 ?_ ?_
        · rcases h0 with q | q
          · omega
          · rcases Int.lt_or_le g.2 off with c | c
            · exact c
            · rw [inG_low h4 c] at q; cases q
        · intro i a c
          have := h i a c
          simp only [inG, Bool.or_eq_true, Bool.and_eq_true, decide_eq_true_eq] at this
          rcases this with q | q
          · omega
          · exact q
      · rename_i q1 q2
        have g1 : g.1 ≤ off := by
          rcases h0 with q | q
          · omega
          · rcases Int.lt_or_le g.2 off with c | c
            · omega
            · rw [inG_low h4 c] at q; cases q
        have g2 : e ≤ g.2 := by
          rcases Int.lt_or_le g.2 e with c | c
          · have := h g.2 (by omega) c
            simp only [inG] at this
            rw [inG_low h4 (Int.le_refl _), decide_eq_false (show ¬ g.2 < g.2 by omega)] at this
            simp at this
          · exact c
        have z : newN off e r = 0 := newN_zero hoe h4 fun i a c => inG_low h4 (by omega)
        rw [z]
        omega
/-! ### what is wanting -/
def unc : List Bool → List (Int × List Int × Bool) → Int
  | c :: cs, p :: ls => (if c then 0 else (p.2.1.length : Int)) + unc cs ls
  | _, _ => 0
theorem unc_nonneg : ∀ (cs : List Bool) (ls : List (Int × List Int × Bool)), 0 ≤ unc cs ls
  | [], _ => by simp [unc]
  | _ :: _, [] => by simp [unc]
  | c :: cs, p :: ls => by
    have := unc_nonneg cs ls
    unfold unc
    split <;> omega
theorem unc_set : ∀ {cs : List Bool} {ls : List (Int × List Int × Bool)} {k : Nat} {p : Int × List Int × Bool}, ls[k]? = some p → cs[k]? = some false → unc (cs.set k true) ls = unc cs ls - p.2.1.length
  | c :: cs, q :: ls, 0, p, h1, h2 => by
    simp at h1 h2
    subst h1 h2
    simp [unc]
    omega
  | c :: cs, q :: ls, k + 1, p, h1, h2 => by
    have := unc_set (cs := cs) (ls := ls) (k := k) (p := p) (by simpa using h1) (by simpa using h2)
    simp only [List.set_cons_succ, unc, this]
    omega
theorem unc_zero : ∀ {cs : List Bool} {ls : List (Int × List Int × Bool)}, cs.length = ls.length → (∀ p ∈ ls, 0 < p.2.1.length) → (unc cs ls = 0 ↔ ∀ c ∈ cs, c = true)
  | [], [], _, _ => by simp [unc]
  | c :: cs, p :: ls, h, hp => by
    have ih := unc_zero (cs := cs) (ls := ls) (by simpa using h) (fun q hq => hp q (List.mem_cons_of_mem _ hq))
    have n := unc_nonneg cs ls
    have l := hp p (by simp)
    simp only [unc, List.mem_cons, forall_eq_or_imp]
    rw [← ih]
    cases c <;> simp <;> omega
section
variable {D : List Int} {ls : List (Int × List Int × Bool)} {come : List Bool} {S : Hs} {lf : List (Int × List Int)} {k : Nat} {p : Int × List Int × Bool}
theorem Came.newAll (c : Came D ls come S lf) (hc : Cutting D ls) (hD2 : D.length ≤ 65535) (hp : ls[k]? = some p) (hk : come[k]? ≠ some true) : newN p.1 (p.1 + p.2.1.length) S.gaps = p.2.1.length := by
  obtain ⟨r1, r2, r3, r4, r5, r6, r7⟩ := hc.each p (List.mem_of_getElem? hp)
  have hb := c.bnd (by omega)
  rw [newN_all (by omega) c.g.ri (by omega) fun i h1 h2 => ?_]
  · omega
  · rw [c.f.hole i (by omega) (by omega)]
    exact (c.isIn hc hp h1 h2).2 hk
/-- how much is held -/
def Heard (D : List Int) (ls : List (Int × List Int × Bool)) (come : List Bool) (S : Hs) : Prop := S.held + unc come ls = D.length
theorem Heard.put (c : Came D ls come S lf) (hH : Heard D ls come S) (hc : Cutting D ls) (hD2 : D.length ≤ 65535) (hp : ls[k]? = some p) (hk : come[k]? = some false) : Heard D ls (come.set k true) (putS S p.1 p.2.1 p.2.2) := by
  have e : (putS S p.1 p.2.1 p.2.2).held = S.held + newN p.1 (p.1 + p.2.1.length) S.gaps := rfl
  unfold Heard at *
  rw [e, c.newAll hc hD2 hp (by rw [hk]; simp), unc_set hp hk]
  omega
theorem Heard.whole (c : Came D ls come S lf) (hH : Heard D ls come S) (hc : Cutting D ls) (hD0 : 0 < D.length) (hD2 : D.length ≤ 65535) : wholeS S = decide (S.held = D.length) := by
  rw [c.whole hc hD0 hD2, decide_eq_decide, ← c.len, List.count_eq_length]
  have z := unc_zero c.len (fun p hp => (hc.each p hp).2.2.1)
  unfold Heard at hH
  constructor
  · intro h
    have := z.2 (fun b hb => (h b hb).symm)
    omega
  · intro h b hb
    exact (z.1 (by omega) b hb).symm
end
/-! ### pieces of one size, and the order in which they come -/
def evenly (D : List Int) (z k : Nat) : List (Int × List Int × Bool) := (List.range k).map fun j => (((j * z : Nat) : Int), (D.drop (j * z)).take (min D.length ((j + 1) * z) - j * z), decide (((min D.length ((j + 1) * z) : Nat) : Int) < D.length))
theorem evenly_at {D : List Int} {z k j : Nat} (h : j < k) : (evenly D z k)[j]? = some (((j * z : Nat) : Int), (D.drop (j * z)).take (min D.length ((j + 1) * z) - j * z), decide (((min D.length ((j + 1) * z) : Nat) : Int) < D.length)) := by
  unfold evenly
  rw [List.getElem?_map, List.getElem?_range h]
  rfl
theorem evenly_len {D : List Int} {z k j : Nat} (hz : 0 < z) (hk : (k - 1) * z < D.length) (h : j < k) : j * z < D.length ∧ j * z < min D.length ((j + 1) * z) ∧ ((D.drop (j * z)).take (min D.length ((j + 1) * z) - j * z)).length = min D.length ((j + 1) * z) - j * z := by
  have h1 : j * z ≤ (k - 1) * z := Nat.mul_le_mul_right _ (by omega)
  have h2 : (j + 1) * z = j * z + z := by rw [Nat.add_mul, Nat.one_mul]
  have h3 : j * z < min D.length ((j + 1) * z) := by omega
  refine ⟨by omega, h3, ?_⟩
  simp
  omega
theorem evenly_cut {D : List Int} {z k : Nat} (h8 : z % 8 = 0) (hz : 0 < z) (hk : (k - 1) * z < D.length) (hk2 : D.length ≤ k * z) : Cutting D (evenly D z k) := by
  refine ⟨fun p hp => ?_, fun i h0 h1 => ?_, ?_⟩
  · obtain ⟨j, hj, rfl⟩ := List.mem_map.1 hp
    have hj := List.mem_range.1 hj
    obtain ⟨e1, e2, e3⟩ := evenly_len hz hk hj
    have h2 : (j + 1) * z = j * z + z := by rw [Nat.add_mul, Nat.one_mul]
    dsimp only
    rw [e3]
    have m8 : (j * z) % 8 = 0 := by rw [Nat.mul_mod, h8]; simp
    refine ⟨by omega, by omega, by omega, by omega, by rw [Int.toNat_natCast], decide_eq_decide.2 (by omega), fun q => ?_⟩
    have := of_decide_eq_true q
    omega
  · have hi : i.toNat / z < k := (Nat.div_lt_iff_lt_mul hz).2 (by omega)
    refine ⟨i.toNat / z, _, evenly_at hi, ?_, ?_⟩
    · have := Nat.div_mul_le_self i.toNat z
      dsimp only
      omega
    · obtain ⟨e1, e2, e3⟩ := evenly_len hz hk hi
      dsimp only
      rw [e3]
      have h2 : (i.toNat / z + 1) * z = i.toNat / z * z + z := by rw [Nat.add_mul, Nat.one_mul]
      have := Nat.lt_div_mul_add hz (a := i.toNat)
      omega
  · unfold evenly
    rw [List.pairwise_map]
    refine (List.pairwise_lt_range (n := k)).imp_of_mem fun {a b} ha hb hab => ?_
    have ha := List.mem_range.1 ha
    obtain ⟨e1, e2, e3⟩ := evenly_len hz hk ha
    dsimp only
    rw [e3]
    have : (a + 1) * z ≤ b * z := Nat.mul_le_mul_right _ (by omega)
    omega
/-- has piece j come by turn i? -/
def inTurn (k i j : Nat) : Bool := (decide (j % 2 = 1) && decide (j < 2 * i)) || (decide (j % 2 = 0) && decide (4 * k ≤ j + 2 * i))
def turnOf (k i : Nat) : Nat := if i < k then 2 * i + 1 else 2 * (2 * k - 1 - i)
def comeAt (k i : Nat) : List Bool := (List.range k).map (inTurn k i)
theorem comeAt_get {k i j : Nat} (h : j < k) : (comeAt k i)[j]? = some (inTurn k i j) := by
  unfold comeAt
  rw [List.getElem?_map, List.getElem?_range h]
  rfl
theorem comeAt_zero (k : Nat) : comeAt k 0 = List.replicate k false := by
  refine List.ext_getElem? fun j => ?_
  by_cases h : j < k
  · rw [comeAt_get h, List.getElem?_replicate, if_pos h]
    unfold inTurn
    simp; omega
  · rw [List.getElem?_eq_none (by simp [comeAt]; omega), List.getElem?_eq_none (by simp; omega)]
theorem inTurn_succ {k i j : Nat} (hi : i < 2 * k) (hj : j < k) : inTurn k (i + 1) j = (inTurn k i j || decide (j = turnOf k i)) := by
  rw [Bool.eq_iff_iff]
  unfold inTurn turnOf
  simp only [Bool.or_eq_true, Bool.and_eq_true, decide_eq_true_eq]
  split <;> omega
theorem comeAt_skip {k i : Nat} (hi : i < 2 * k) (h : k ≤ turnOf k i) : comeAt k (i + 1) = comeAt k i := by
  unfold comeAt
  refine List.map_congr_left fun j hj => ?_
  have hj := List.mem_range.1 hj
  rw [inTurn_succ hi hj, decide_eq_false (by omega), Bool.or_false]
theorem comeAt_step {k i : Nat} (hi : i < 2 * k) (h : turnOf k i < k) : comeAt k (i + 1) = (comeAt k i).set (turnOf k i) true ∧ (comeAt k i)[turnOf k i]? = some false := by
  refine ⟨List.ext_getElem? fun j => ?_, ?_⟩
  · by_cases hj : j < k
    · rw [comeAt_get hj, inTurn_succ hi hj]
      by_cases e : j = turnOf k i
      · subst e
        rw [List.getElem?_set_self (by simp [comeAt]; omega)]
        simp
      · rw [List.getElem?_set_ne (Ne.symm e), comeAt_get hj, decide_eq_false e, Bool.or_false]
    · rw [List.getElem?_eq_none (by simp [comeAt]; omega), List.getElem?_eq_none (by simp [comeAt]; omega)]
  · rw [comeAt_get h]
    congr 1
    rw [Bool.eq_false_iff]
    unfold inTurn turnOf
    simp only [ne_eq, Bool.or_eq_true, Bool.and_eq_true, decide_eq_true_eq]
    split <;> omega
theorem comeAt_end (k : Nat) : ∀ c ∈ comeAt k (2 * k), c = true := by
  intro c hc
  obtain ⟨j, hj, rfl⟩ := List.mem_map.1 hc
  have := List.mem_range.1 hj
  unfold inTurn
  simp only [Bool.or_eq_true, Bool.and_eq_true, decide_eq_true_eq]
  omega
/-- the holes half way: each second piece, the first one too -/
def halfG (z k n : Nat) : List (Int × Int) := (List.range ((k + 1) / 2)).map fun q => (((2 * q * z : Nat) : Int), if 2 * q + 1 = k then 65535 else (((2 * q + 1) * z : Nat) : Int))
theorem rise_map {top : Int} : ∀ {l : List (Int × Int)} {b : Int}, (∀ g ∈ l, b < g.1 ∧ g.1 < g.2 ∧ g.2 ≤ top) → l.Pairwise (fun g h => g.2 < h.1) → Rise top b l
  | [], _, _, _ => trivial
  | g :: r, b, h, p => by
    obtain ⟨h1, h2, h3⟩ := h g (by simp)
    obtain ⟨p1, p2⟩ := List.pairwise_cons.1 p
    exact ⟨h1, h2, h3, rise_map (fun x hx => ⟨p1 x hx, (h x (List.mem_cons_of_mem _ hx)).2⟩) p2⟩
theorem halfway {D : List Int} {S : Hs} {lf : List (Int × List Int)} {z k : Nat} (hz8 : z % 8 = 0) (hz : 0 < z) (hk0 : 0 < k) (hk : (k - 1) * z < D.length) (hk2 : D.length ≤ k * z) (hD2 : D.length ≤ 65535) (c : Came D (evenly D z k) (comeAt k k) S lf) : S.gaps.length = (k + 1) / 2 := by
  have hc := evenly_cut hz8 hz hk hk2
  have hx := c.hx
  have key : S.gaps = halfG z k D.length := by
    have hb := c.bnd hD2
    -- the end
    have bn : (k % 2 = 1 → bnd S = 65535) ∧ (k % 2 = 0 → bnd S = D.length) := by
      have hlast := evenly_at (D := D) (z := z) (k := k) (j := k - 1) (by omega)
      have hlc := comeAt_get (k := k) (i := k) (j := k - 1) (by omega)
      have e1 : (k - 1 + 1) * z = k * z := by congr 1; omega
      have em : min D.length ((k - 1 + 1) * z) = D.length := by rw [e1]; omega
      rw [em] at hlast
      refine ⟨fun h => ?_, fun h => ?_⟩
      · rcases c.fin with ⟨q, _⟩ | ⟨q, q2⟩
        · unfold bnd; rw [if_neg (by omega)]; exact hx
        · -- the last piece has not come
          exfalso
          have hc1 : (comeAt k k)[k - 1]? ≠ some true := by
            rw [hlc]; unfold inTurn
            simp only [ne_eq, Option.some.injEq, Bool.or_eq_true, Bool.and_eq_true, decide_eq_true_eq]
            omega
          exact hc1 (q2 _ _ hlast (by simp))
      · have hc1 : (comeAt k k)[k - 1]? = some true := by
          rw [hlc]; unfold inTurn
          simp only [Option.some.injEq, Bool.or_eq_true, Bool.and_eq_true, decide_eq_true_eq]
          omega
        rcases c.fin with ⟨q, q2⟩ | ⟨q, _⟩
        · exact absurd hc1 (q2 _ _ hlast (by simp))
        · unfold bnd; rw [if_pos (by omega)]; exact q
    have ri : Rise 65535 (-1) (halfG z k D.length) := by
      refine rise_map (fun g hg => ?_) ?_
      · obtain ⟨q, hq, rfl⟩ := List.mem_map.1 hg
        have hq := List.mem_range.1 hq
        obtain ⟨e1, e2, e3⟩ := evenly_len hz hk (j := 2 * q) (by omega)
        have h2 : (2 * q + 1) * z = 2 * q * z + z := by rw [Nat.add_mul, Nat.one_mul]
        dsimp only
        split
        · omega
        · have := (evenly_len hz hk (j := 2 * q + 1) (by omega)).1
          omega
      · unfold halfG
        rw [List.pairwise_map]
        refine (List.pairwise_lt_range (n := (k + 1) / 2)).imp_of_mem fun {a b} ha hb hab => ?_
        have hb := List.mem_range.1 hb
        dsimp only
        rw [if_neg (by omega)]
        have : (2 * a + 1 + 1) * z ≤ 2 * b * z := Nat.mul_le_mul_right _ (by omega)
        rw [Nat.add_mul, Nat.one_mul] at this
        omega
    refine rise_eq c.g.ri ri fun i => ?_
    rw [Bool.eq_iff_iff]
    constructor
    · intro h
      obtain ⟨g, hg, g1, g2⟩ := inG_mem h
      have gm := c.g.ri.mem g hg
      have h1 := c.f.hole i (by omega) (by omega)
      rw [h] at h1
      rcases Int.lt_or_le i D.length with q | q
      · have hi : i.toNat / z < k := (Nat.div_lt_iff_lt_mul hz).2 (by omega)
        obtain ⟨e1, e2, e3⟩ := evenly_len hz hk hi
        have hp := evenly_at (D := D) (z := z) hi
        have w1 := Nat.div_mul_le_self i.toNat z
        have w2 := Nat.lt_div_mul_add hz (a := i.toNat)
        have h2 : (i.toNat / z + 1) * z = i.toNat / z * z + z := by rw [Nat.add_mul, Nat.one_mul]
        have hno := (c.isIn hc hp (i := i) (by dsimp only; omega) (by dsimp only; rw [e3]; omega)).1 h1.symm
        rw [comeAt_get hi] at hno
        generalize hj : i.toNat / z = j at *
        have hev : j % 2 = 0 := by
          rcases Nat.mod_two_eq_zero_or_one j with q | q
          · exact q
          · exfalso
            apply hno
            unfold inTurn
            simp only [Option.some.injEq, Bool.or_eq_true, Bool.and_eq_true, decide_eq_true_eq]
            omega
        refine inG_of (g := (((2 * (j / 2) * z : Nat) : Int), if 2 * (j / 2) + 1 = k then 65535 else (((2 * (j / 2) + 1) * z : Nat) : Int))) (List.mem_map.2 ⟨j / 2, List.mem_range.2 (by omega), rfl⟩) ?_ ?_
        · dsimp only
          rw [show 2 * (j / 2) = j by omega]
          omega
        · dsimp only
          rw [show 2 * (j / 2) = j by omega]
          split <;> omega
      · -- behind the end
        have hkodd : k % 2 = 1 := by
          rcases Nat.mod_two_eq_zero_or_one k with x | x
          · have := bn.2 x; omega
          · exact x
        have := bn.1 hkodd
        have hm1 : (k - 1) * z ≤ D.length := by omega
        refine inG_of (g := (((2 * (k / 2) * z : Nat) : Int), if 2 * (k / 2) + 1 = k then 65535 else (((2 * (k / 2) + 1) * z : Nat) : Int))) (List.mem_map.2 ⟨k / 2, List.mem_range.2 (by omega), rfl⟩) ?_ ?_
        · dsimp only
          rw [show 2 * (k / 2) = k - 1 by omega]
          omega
        · dsimp only
          rw [if_pos (by omega)]
          omega
    · intro h
      obtain ⟨g, hg, g1, g2⟩ := inG_mem h
      obtain ⟨q, hq, rfl⟩ := List.mem_map.1 hg
      have hq := List.mem_range.1 hq
      dsimp only at g1 g2
      obtain ⟨e1, e2, e3⟩ := evenly_len hz hk (j := 2 * q) (by omega)
      have h2 : (2 * q + 1) * z = 2 * q * z + z := by rw [Nat.add_mul, Nat.one_mul]
      have hiB : i < bnd S := by
        split at g2
        · have := bn.1 (by omega); omega
        · have := (evenly_len hz hk (j := 2 * q + 1) (by omega)).1
          omega
      rw [c.f.hole i (by omega) hiB]
      rcases Int.lt_or_le i D.length with x | x
      · have hp := evenly_at (D := D) (z := z) (k := k) (j := 2 * q) (by omega)
        refine (c.isIn hc hp (i := i) (by dsimp only; omega) ?_).2 ?_
        · dsimp only
          rw [e3]
          split at g2
          · rename_i y
            have : (2 * q + 1) * z = k * z := by congr 1
            omega
          · omega
        · rw [comeAt_get (by omega)]
          unfold inTurn
          simp only [ne_eq, Option.some.injEq, Bool.or_eq_true, Bool.and_eq_true, decide_eq_true_eq]
          omega
      · rw [Option.isNone_iff_eq_none]
        cases e : firstB lf i with
        | none => rfl
        | some v => have := (c.byte hc e).2.2; omega
  rw [key]
  simp [halfG]
end Go.Vc.S11
