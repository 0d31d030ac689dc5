import Derived.Test.YtkkdnnpnbmpifaaS11First
open Go Go.Vc Go.Proofs
set_option linter.unusedVariables false
set_option linter.unusedSimpArgs false
set_option autoImplicit false
namespace Go.Vc.S11
/-- pieces that part some bytes: place, bytes, more -/
structure Cutting (D : List Int) (ls : List (Int × List Int × Bool)) : Prop where
  each : ∀ p ∈ ls, 0 ≤ p.1 ∧ p.1 % 8 = 0 ∧ 0 < p.2.1.length ∧ p.1 + p.2.1.length ≤ D.length ∧ p.2.1 = (D.drop p.1.toNat).take p.2.1.length ∧ p.2.2 = decide (p.1 + p.2.1.length < D.length) ∧ (p.2.2 = true → p.2.1.length % 8 = 0)
  cov : ∀ i, 0 ≤ i → i < (D.length : Int) → ∃ (k : Nat) (p : Int × List Int × Bool), ls[k]? = some p ∧ p.1 ≤ i ∧ i < p.1 + p.2.1.length
  apart : ls.Pairwise fun (p q : Int × List Int × Bool) => p.1 + (p.2.1.length : Int) ≤ q.1
theorem Cutting.one {D : List Int} {ls : List (Int × List Int × Bool)} (c : Cutting D ls) {j k : Nat} {p q : Int × List Int × Bool} {i : Int} (hj : ls[j]? = some p) (hk : ls[k]? = some q) (h1 : p.1 ≤ i ∧ i < p.1 + p.2.1.length) (h2 : q.1 ≤ i ∧ i < q.1 + q.2.1.length) : j = k := by
  have ap := List.pairwise_iff_getElem.1 c.apart
  obtain ⟨a1, a2⟩ := List.getElem?_eq_some_iff.1 hj
  obtain ⟨b1, b2⟩ := List.getElem?_eq_some_iff.1 hk
  rcases Nat.lt_trichotomy j k with h | h | h
  · have := ap j k a1 b1 h
    rw [a2, b2] at this
    omega
  · exact h
  · have := ap k j b1 a1 h
    rw [a2, b2] at this
    omega
theorem firstB_none {i : Int} : ∀ {l : List (Int × List Int)}, firstB l i = none ↔ ∀ p ∈ l, ¬ (p.1 ≤ i ∧ i < p.1 + p.2.length)
  | [] => by simp [firstB]
  | p :: r => by
    simp only [firstB]
    by_cases c : p.1 ≤ i ∧ i < p.1 + p.2.length
    · rw [if_pos c]
      simp only [reduceCtorEq, false_iff]
      intro h
      exact h p (by simp) c
    · rw [if_neg c, firstB_none]
      constructor
      · intro h q hq
        rcases List.mem_cons.1 hq with rfl | hq
        · exact c
        · exact h q hq
      · intro h q hq
        exact h q (List.mem_cons_of_mem _ hq)
theorem firstB_some {i v : Int} : ∀ {l : List (Int × List Int)}, firstB l i = some v → ∃ p ∈ l, p.1 ≤ i ∧ i < p.1 + p.2.length ∧ v = bt p.2 (i - p.1)
  | p :: r, h => by
    simp only [firstB] at h
    split at h
    · rename_i c
      exact ⟨p, by simp, c.1, c.2, (Option.some.inj h).symm⟩
    · obtain ⟨q, hq, x⟩ := firstB_some h
      exact ⟨q, List.mem_cons_of_mem _ hq, x⟩
theorem newN_zero {top off e : Int} (hoe : off < e) : ∀ {l : List (Int × Int)} {b : Int}, Rise top b l → (∀ i, off ≤ i → i < e → inG i l = false) → newN off e l = 0
  | [], _, _, _ => rfl
  | g :: r, b, ⟨h1, h2, h3, h4⟩, h => by
    have ih := newN_zero hoe h4 (fun i a c => by have := h i a c; simp only [inG, Bool.or_eq_false_iff] at this; exact this.2)
    unfold newN
    split
    · rfl
    · split
      · exact ih
      · rename_i q1 q2
        have := h (max g.1 off) (by omega) (by omega)
        simp only [inG, Bool.or_eq_false_iff] at this
        have t := this.1
        rw [decide_eq_true (by omega), decide_eq_true (by omega)] at t
        cases t
theorem newN_pos {top off e i : Int} (hoe : off < e) (h1 : off ≤ i) (h2 : i < e) : ∀ {l : List (Int × Int)} {b : Int}, Rise top b l → inG i l = true → 0 < newN off e l
  | g :: r, b, ⟨q1, q2, q3, q4⟩, h => by
    have nn := newN_nonneg hoe q4
    unfold newN
    simp only [inG, Bool.or_eq_true, Bool.and_eq_true, decide_eq_true_eq] at h
    rcases h with h | h
    · rw [if_neg (by omega), if_neg (by omega)]
      omega
    · have ih := newN_pos hoe h1 h2 q4 h
      have : g.2 < i := by
        rcases Int.lt_or_le g.2 i with c | c
        · exact c
        · rw [inG_low q4 c] at h; cases h
      rw [if_neg (by omega)]
      split
      · exact ih
      · omega
/-- the last hole, where all behind a place is a hole -/
theorem topS_le {S : Hs} {L : Int} (g : Good S) (hf : S.fin < 0) (hL : L < S.max) (h : ∀ i, L ≤ i → i < S.max → inG i S.gaps = true) : topS S ≤ max L 0 := by
  have e0 : bnd S = S.max := by unfold bnd; rw [if_neg (by omega)]
  have ri := g.ri
  have gm := g.mx
  rw [e0] at ri
  have mem : ∀ {l : List (Int × Int)} {i : Int}, inG i l = true → ∃ x ∈ l, x.1 ≤ i ∧ i < x.2 := by
    intro l
    induction l with
    | nil => intro i h; cases h
    | cons x r ih =>
      intro i h
      simp only [inG, Bool.or_eq_true, Bool.and_eq_true, decide_eq_true_eq] at h
      rcases h with h | h
      · exact ⟨x, by simp, h⟩
      · obtain ⟨y, hy, z⟩ := ih h
        exact ⟨y, List.mem_cons_of_mem _ hy, z⟩
  rcases List.eq_nil_or_concat S.gaps with q | ⟨c, y, q⟩
  · have := h (S.max - 1) (by omega) (by omega)
    rw [q] at this
    cases this
  · rw [List.concat_eq_append] at q
    have tq : topS S = if y.2 = S.max then y.1 else S.max := by unfold topS; rw [q, List.getLast?_concat]
    rw [q] at ri h
    obtain ⟨k1, k2, k3, k4, k5⟩ := Rise.init ri
    have hy : y.2 = S.max := by
      obtain ⟨x, hx, z1, z2⟩ := mem (h (S.max - 1) (by omega) (by omega))
      rcases List.mem_append.1 hx with hx | hx
      · have := k2 x hx; omega
      · rw [List.mem_singleton] at hx; subst hx; omega
    rw [tq, if_pos hy]
    rcases Int.lt_or_le (max L 0) y.1 with a | a
    · obtain ⟨x, hx, z1, z2⟩ := mem (h (y.1 - 1) (by omega) (by omega))
      rcases List.mem_append.1 hx with hx | hx
      · have := k2 x hx; omega
      · rw [List.mem_singleton] at hx; subst hx; omega
    · exact a
/-- where it stands: which pieces have come -/
structure Came (D : List Int) (ls : List (Int × List Int × Bool)) (come : List Bool) (S : Hs) (lf : List (Int × List Int)) : Prop where
  g : Good S
  hx : S.max = 65535
  f : First S lf
  len : come.length = ls.length
  lf1 : ∀ q ∈ lf, ∃ (k : Nat) (p : Int × List Int × Bool), ls[k]? = some p ∧ come[k]? = some true ∧ q = (p.1, p.2.1)
  lf2 : ∀ (k : Nat) (p : Int × List Int × Bool), ls[k]? = some p → come[k]? = some true → (p.1, p.2.1) ∈ lf
  seen : ∀ (k : Nat) (p : Int × List Int × Bool), ls[k]? = some p → ((p.1, (p.2.1.length : Int), p.2.2) ∈ S.seen ↔ come[k]? = some true)
  fin : (S.fin = -1 ∧ ∀ (k : Nat) (p : Int × List Int × Bool), ls[k]? = some p → p.2.2 = false → come[k]? ≠ some true) ∨ (S.fin = D.length ∧ ∀ (k : Nat) (p : Int × List Int × Bool), ls[k]? = some p → p.2.2 = false → come[k]? = some true)
section
variable {D : List Int} {ls : List (Int × List Int × Bool)} {come : List Bool} {S : Hs} {lf : List (Int × List Int)} {k : Nat} {p : Int × List Int × Bool}
theorem bt_win {D : List Int} {o n : Nat} {i : Int} (h0 : (o : Int) ≤ i) (h1 : i < o + n) : bt ((D.drop o).take n) (i - o) = bt D i := by
  unfold bt
  simp only [List.getD_eq_getElem?_getD, List.getElem?_take, List.getElem?_drop]
  rw [if_pos (by omega)]
  congr 2
  omega
theorem Came.new (hl : come = List.replicate ls.length false) (hc : Cutting D ls) (hD : 0 < D.length) (hD2 : D.length ≤ 65535) : Came D ls come ⟨65535, [], [(0, 65535)], -1, 0, []⟩ [] := by
  subst hl
  refine ⟨Good.new (by omega) (by omega), rfl, First.new (by omega), by simp, by simp, fun k p hp h => ?_, fun k p hp => ?_, .inl ⟨rfl, fun k p hp _ h => ?_⟩⟩
  · rw [List.getElem?_replicate] at h; split at h <;> simp at h
  · rw [List.getElem?_replicate]; split <;> simp
  · rw [List.getElem?_replicate] at h; split at h <;> simp at h
/-- a place is covered just if its piece has come -/
theorem Came.isIn (c : Came D ls come S lf) (hc : Cutting D ls) (hp : ls[k]? = some p) {i : Int} (h1 : p.1 ≤ i) (h2 : i < p.1 + p.2.1.length) : (firstB lf i).isNone = true ↔ come[k]? ≠ some true := by
  rw [Option.isNone_iff_eq_none, firstB_none]
  constructor
  · intro h e
    exact h _ (c.lf2 k p hp e) ⟨h1, h2⟩
  · intro h q hq hcov
    obtain ⟨j, r, e1, e2, rfl⟩ := c.lf1 q hq
    have := hc.one e1 hp hcov ⟨h1, h2⟩
    subst this
    exact h e2
theorem Came.byte (c : Came D ls come S lf) (hc : Cutting D ls) {i v : Int} (h : firstB lf i = some v) : v = bt D i ∧ 0 ≤ i ∧ i < D.length := by
  obtain ⟨q, hq, a, b, e⟩ := firstB_some h
  obtain ⟨j, r, e1, e2, rfl⟩ := c.lf1 q hq
  obtain ⟨r1, _, _, r4, r5, _⟩ := hc.each r (List.mem_of_getElem? e1)
  dsimp only at a b e
  rw [e, r5]
  have := bt_win (D := D) (o := r.1.toNat) (n := r.2.1.length) (i := i) (by omega) (by omega)
  rw [Int.toNat_of_nonneg r1] at this
  exact ⟨this, by omega, by omega⟩
theorem Came.bnd (c : Came D ls come S lf) (hD2 : D.length ≤ 65535) : (D.length : Int) ≤ bnd S := by
  unfold S11.bnd
  have := c.hx
  rcases c.fin with ⟨h, _⟩ | ⟨h, _⟩
  · rw [if_neg (by omega)]; omega
  · rw [if_pos (by omega)]; omega
/-- no piece is refused -/
theorem Came.err (c : Came D ls come S lf) (hc : Cutting D ls) (hD2 : D.length ≤ 65535) (hp : ls[k]? = some p) : errS S p.1 p.2.1.length p.2.2 = 0 := by
  obtain ⟨r1, r2, r3, r4, r5, r6, r7⟩ := hc.each p (List.mem_of_getElem? hp)
  have hx := c.hx
  unfold errS
  rw [if_neg (by omega), if_neg, if_neg (by omega), if_neg (by omega), if_neg, if_neg, if_neg]
  · rintro ⟨a, b, d⟩
    rcases c.fin with ⟨h, _⟩ | ⟨h, _⟩
    · have tm : topS S ≤ S.max := by
        unfold topS
        split
        · exact Int.le_refl _
        · rename_i g hg
          have gm := c.g.bnd_le
          have := c.g.ri.mem g (List.mem_of_getLast? hg)
          split <;> omega
      have hDm : (D.length : Int) < S.max := by
        rcases Int.lt_or_le (D.length : Int) S.max with x | x
        · exact x
        · rw [r6] at b
          have := of_decide_eq_false b
          omega
      have := topS_le (L := D.length) c.g a hDm (fun i h1 h2 => by
        rw [c.f.hole i (by omega) (by unfold S11.bnd; rw [if_neg (by omega)]; exact h2)]
        rw [Option.isNone_iff_eq_none]
        cases e : firstB lf i with
        | none => rfl
        | some v => have := (c.byte hc e).2.2; omega)
      rw [r6] at b
      have := of_decide_eq_false b
      omega
    · omega
  · rintro ⟨a, b, d⟩
    rcases c.fin with ⟨h, _⟩ | ⟨h, _⟩ <;> omega
  · rintro ⟨a, b, d⟩
    rw [r6] at b
    have := of_decide_eq_false b
    rcases c.fin with ⟨h, _⟩ | ⟨h, _⟩ <;> omega
  · rintro (a | a | a)
    · omega
    · rw [Int.tmod_eq_emod_of_nonneg r1] at a; exact a r2
    · exact a.2 (r7 a.1)
theorem Came.newZ (c : Came D ls come S lf) (hc : Cutting D ls) (hD2 : D.length ≤ 65535) (hp : ls[k]? = some p) : newN p.1 (p.1 + p.2.1.length) S.gaps = 0 ↔ come[k]? = some true := by
  obtain ⟨r1, r2, r3, r4, r5, r6, r7⟩ := hc.each p (List.mem_of_getElem? hp)
  have hb := c.bnd (by omega)
  constructor
  · intro h
    rcases Decidable.em (come[k]? = some true) with e | e
    · exact e
    · have h1 := (c.isIn hc hp (i := p.1) (by omega) (by omega)).2 e
      rw [← c.f.hole p.1 r1 (by omega)] at h1
      have := newN_pos (off := p.1) (e := p.1 + p.2.1.length) (i := p.1) (by omega) (by omega) (by omega) c.g.ri h1
      omega
  · intro h
    refine newN_zero (by omega) c.g.ri fun i h1 h2 => ?_
    rw [c.f.hole i (by omega) (by omega)]
    rw [Bool.eq_false_iff]
    intro e
    exact (c.isIn hc hp h1 h2).1 e h
theorem Came.put (c : Came D ls come S lf) (hc : Cutting D ls) (hD : Byt D) (hD2 : D.length ≤ 65535) (hp : ls[k]? = some p) : Came D ls (come.set k true) (putS S p.1 p.2.1 p.2.2) (lf ++ [(p.1, p.2.1)]) := by
  have he := c.err hc hD2 hp
  obtain ⟨r1, r2, r3, r4, r5, r6, r7⟩ := hc.each p (List.mem_of_getElem? hp)
  have hb : Byt p.2.1 := by rw [r5]; exact (hD.drop _).take _
  obtain ⟨kl, kp⟩ := List.getElem?_eq_some_iff.1 hp
  have kc : k < come.length := by rw [c.len]; exact kl
  have hk : (come.set k true)[k]? = some true := by rw [List.getElem?_set_self kc]
  have ho : ∀ j, j ≠ k → (come.set k true)[j]? = come[j]? := fun j hj => List.getElem?_set_ne (Ne.symm hj)
  refine ⟨c.g.put he hb, c.hx, c.f.put c.g he hb, by simpa using c.len, fun q hq => ?_, fun j q hq h => ?_, fun j q hq => ?_, ?_⟩
  · rcases List.mem_append.1 hq with h | h
    · obtain ⟨j, r, e1, e2, e3⟩ := c.lf1 q h
      refine ⟨j, r, e1, ?_, e3⟩
      by_cases e : j = k
      · subst e; exact hk
      · rw [ho j e]; exact e2
    · rw [List.mem_singleton] at h
      exact ⟨k, p, hp, hk, h⟩
  · by_cases e : j = k
    · subst e
      rw [hp] at hq
      cases hq
      simp
    · rw [ho j e] at h
      exact List.mem_append_left _ (c.lf2 j q hq h)
  · have es : (putS S p.1 p.2.1 p.2.2).seen = if (p.1, (p.2.1.length : Int), p.2.2) ∈ S.seen then S.seen else S.seen ++ [(p.1, (p.2.1.length : Int), p.2.2)] := rfl
    rw [es]
    by_cases e : j = k
    · subst e
      rw [hp] at hq
      cases hq
      rw [hk]
      simp only [iff_true]
      split
      · assumption
      · simp
    · rw [ho j e, ← c.seen j q hq]
      obtain ⟨s1, _, s3, _⟩ := hc.each q (List.mem_of_getElem? hq)
      have hne : (q.1, (q.2.1.length : Int), q.2.2) ≠ (p.1, (p.2.1.length : Int), p.2.2) := fun x => by
        have e1 : q.1 = p.1 := congrArg (·.1) x
        exact e (hc.one hq hp (i := p.1) (by omega) (by omega))
      split
      · rfl
      · rw [List.mem_append, List.mem_singleton]
        exact ⟨fun x => x.resolve_right hne, .inl⟩
  · have ef : (putS S p.1 p.2.1 p.2.2).fin = if p.2.2 = false ∧ S.fin < 0 then p.1 + p.2.1.length else S.fin := rfl
    rw [ef]
    by_cases q : p.2.2 = false ∧ S.fin < 0
    · rw [if_pos q]
      right
      have := q.1
      rw [r6] at this
      have := of_decide_eq_false this
      refine ⟨by omega, fun j r hr hm => ?_⟩
      obtain ⟨s1, _, s3, s4, _, s6, _⟩ := hc.each r (List.mem_of_getElem? hr)
      rw [s6] at hm
      have := of_decide_eq_false hm
      have : j = k := hc.one hr hp (i := D.length - 1) (by omega) (by omega)
      subst this
      exact hk
    · rw [if_neg q]
      rcases c.fin with ⟨h, h'⟩ | h
      · left
        refine ⟨h, fun j r hr hm => ?_⟩
        by_cases e : j = k
        · subst e
          rw [hp] at hr
          cases hr
          exact absurd ⟨hm, by omega⟩ q
        · rw [ho j e]; exact h' j r hr hm
      · refine .inr ⟨h.1, fun j r hr hm => ?_⟩
        by_cases e : j = k
        · subst e; exact hk
        · rw [ho j e]; exact h.2 j r hr hm
/-- bytes that are held are the data's -/
theorem Came.data (c : Came D ls come S lf) (hc : Cutting D ls) (hD2 : D.length ≤ 65535) (hp : ls[k]? = some p) (hk : come[k]? = some true) : ((S.buf.take (p.1 + p.2.1.length).toNat).drop p.1.toNat) = p.2.1 := by
  obtain ⟨r1, r2, r3, r4, r5, r6, r7⟩ := hc.each p (List.mem_of_getElem? hp)
  have hb := c.bnd (by omega)
  have key : ∀ i, p.1 ≤ i → i < p.1 + p.2.1.length → bt S.buf i = bt D i ∧ i < S.buf.length := fun i h1 h2 => by
    cases e : firstB lf i with
    | none => exact absurd hk ((c.isIn hc hp h1 h2).1 (by rw [e]; rfl))
    | some v =>
      have h3 := c.f.byte i (by omega) (by omega) v e
      have h4 := c.byte hc e
      exact ⟨by rw [h3.1, h4.1], h3.2⟩
  have hl := (key (p.1 + p.2.1.length - 1) (by omega) (by omega)).2
  refine List.ext_getElem ?_ fun i h1 h2 => ?_
  · simp; omega
  · have hk1 := (key (p.1 + i) (by omega) (by omega)).1
    have e1 : p.2.1[i] = bt D (p.1 + i) := by
      have := bt_win (D := D) (o := p.1.toNat) (n := p.2.1.length) (i := p.1 + i) (by omega) (by omega)
      rw [← r5] at this
      rw [← this, show p.1 + (i : Int) - (p.1.toNat : Int) = ((i : Nat) : Int) by omega, bt_nat h2]
    rw [e1, ← hk1]
    simp only [List.getElem_drop, List.getElem_take]
    unfold bt
    rw [List.getD_eq_getElem?_getD, List.getElem?_eq_getElem (by omega)]
    simp only [Option.getD_some]
    congr 1
    omega
theorem Came.same (c : Came D ls come S lf) (hc : Cutting D ls) (hD : Byt D) (hD2 : D.length ≤ 65535) (hp : ls[k]? = some p) : sameS S p.1 p.2.1 p.2.2 = true ↔ come[k]? = some true := by
  obtain ⟨kl, kp⟩ := List.getElem?_eq_some_iff.1 hp
  have kc : k < come.length := by rw [c.len]; exact kl
  have h1 := (c.put hc hD hD2 hp).data hc hD2 hp (by rw [List.getElem?_set_self kc])
  have h2 := c.seen k p hp
  unfold sameS
  rw [h1]
  simp [h2]
/-- whole: just if all have come -/
theorem Came.whole (c : Came D ls come S lf) (hc : Cutting D ls) (hD0 : 0 < D.length) (hD2 : D.length ≤ 65535) : wholeS S = decide (come.count true = ls.length) := by
  rw [← c.len, Bool.eq_iff_iff, decide_eq_true_iff, List.count_eq_length]
  constructor
  · intro hw b hb
    obtain ⟨h0, h1, h2⟩ := c.f.bytes c.g hw
    obtain ⟨j, hj, rfl⟩ := List.getElem_of_mem hb
    have hj2 : j < ls.length := by rw [← c.len]; exact hj
    obtain ⟨r1, r2, r3, r4, r5, r6, r7⟩ := hc.each _ (List.getElem_mem hj2)
    have e := h2 ls[j].1 r1 (by rcases c.fin with ⟨h, _⟩ | ⟨h, _⟩ <;> omega)
    rcases Decidable.em (come[j]? = some true) with q | q
    · rw [List.getElem?_eq_getElem hj] at q
      exact (Option.some.inj q).symm
    · have := (c.isIn hc (List.getElem?_eq_getElem hj2) (i := ls[j].1) (by omega) (by omega)).2 q
      rw [e] at this
      cases this
  · intro h
    have all : ∀ (j : Nat) (q : Int × List Int × Bool), ls[j]? = some q → come[j]? = some true := fun j q hq => by
      obtain ⟨a, b⟩ := List.getElem?_eq_some_iff.1 hq
      have hj : j < come.length := by rw [c.len]; exact a
      rw [List.getElem?_eq_getElem hj, ← h _ (List.getElem_mem hj)]
    have hf : S.fin = D.length := by
      rcases c.fin with ⟨h1, h2⟩ | h1
      · obtain ⟨j, q, hq, q1, q2⟩ := hc.cov (D.length - 1) (by omega) (by omega)
        obtain ⟨r1, r2, r3, r4, r5, r6, r7⟩ := hc.each q (List.mem_of_getElem? hq)
        exact absurd (all j q hq) (h2 j q hq (by rw [r6]; exact decide_eq_false (by omega)))
      · exact h1.1
    have eb : S11.bnd S = S.fin := by unfold S11.bnd; rw [if_pos (by omega)]
    unfold wholeS
    rw [decide_eq_true (by omega), Bool.true_and]
    cases hg : S.gaps with
    | nil => rfl
    | cons x r =>
      have ri := c.g.ri
      rw [hg] at ri
      obtain ⟨q1, q2, q3, q4⟩ := ri
      obtain ⟨j, q, hq, p1, p2⟩ := hc.cov x.1 (by omega) (by omega)
      have h1 := c.f.hole x.1 (by omega) (by omega)
      rw [hg] at h1
      simp only [inG] at h1
      rw [decide_eq_true (Int.le_refl _), decide_eq_true q2] at h1
      exact absurd (all j q hq) ((c.isIn hc hq p1 p2).1 h1.symm)
theorem Came.bytes (c : Came D ls come S lf) (hc : Cutting D ls) (hD2 : D.length ≤ 65535) (hw : wholeS S = true) : S.fin ≤ S.buf.length ∧ S.buf.take S.fin.toNat = D := by
  obtain ⟨h0, h1, h2⟩ := c.f.bytes c.g hw
  have hf : S.fin = D.length := by rcases c.fin with ⟨h, _⟩ | ⟨h, _⟩ <;> omega
  refine ⟨h1, ?_⟩
  refine List.ext_getElem (by simp; omega) fun i a b => ?_
  have := (c.byte hc (h2 i (by omega) (by omega))).1
  rw [List.getElem_take]
  unfold bt at this
  simp only [List.getD_eq_getElem?_getD, Int.toNat_natCast] at this
  rw [List.getElem?_eq_getElem (by simp at a; omega), List.getElem?_eq_getElem b] at this
  exact this
end
end Go.Vc.S11
