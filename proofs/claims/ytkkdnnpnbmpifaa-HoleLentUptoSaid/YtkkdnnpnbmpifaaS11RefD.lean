import Derived.Test.YtkkdnnpnbmpifaaS11RefC
open Go Go.Vc Go.Proofs
set_option linter.unusedVariables false
set_option linter.unusedSimpArgs false
set_option autoImplicit false
namespace Go.Vc.S11
theorem rise_up {t t' : Int} : ∀ {l : List (Int × Int)} {b : Int}, Rise t b l → t ≤ t' → Rise t' b l
  | [], _, _, _ => trivial
  | g :: r, b, ⟨h1, h2, h3, h4⟩, h => ⟨h1, h2, by omega, rise_up h4 h⟩
theorem rise_snoc {t : Int} {y : Int × Int} : ∀ {l : List (Int × Int)} {b : Int}, Rise t b l → (∀ g ∈ l, g.2 < y.1) → b < y.1 → y.1 < y.2 → y.2 ≤ t → Rise t b (l ++ [y])
  | [], _, _, _, h1, h2, h3 => ⟨h1, h2, h3, trivial⟩
  | g :: r, b, ⟨q1, q2, q3, q4⟩, h, h1, h2, h3 => ⟨q1, q2, q3, rise_snoc q4 (fun x hx => h x (List.mem_cons_of_mem _ hx)) (h g (by simp)) h2 h3⟩
section
variable {N h : Nat} {w w1 : World} {W : Wh} {A D P : Sl} {R : SV → World → Prop} {S : Hs}
/-- holes up to a place -/
structure Runs (W : Wh) (t : Nat) (out : List (Int × Int)) : Prop where
  ri : Rise t (-1) out
  hole : ∀ j : Nat, j < t → inG j out = !hasAt W j
theorem Runs.nil (W : Wh) : Runs W 0 [] := ⟨trivial, fun j hj => by omega⟩
theorem Runs.none {t : Nat} {out : List (Int × Int)} (r : Runs W t out) : inG (t : Int) out = false := by
  rw [Bool.eq_false_iff]
  intro q
  obtain ⟨g, hg, g1, g2⟩ := inG_mem q
  have := r.ri.mem g hg
  omega
theorem Runs.skip {t : Nat} {out : List (Int × Int)} (r : Runs W t out) (h : hasAt W t = true) : Runs W (t + 1) out := by
  refine ⟨rise_up r.ri (by omega), fun j hj => ?_⟩
  by_cases e : j = t
  · subst e; rw [r.none, h]; rfl
  · exact r.hole j (by omega)
theorem Runs.fresh {t : Nat} {out : List (Int × Int)} (r : Runs W t out) (h : hasAt W t = false) (hp : t = 0 ∨ hasAt W (t - 1) = true) : Runs W (t + 1) (out ++ [((t : Int), ((t + 1 : Nat) : Int))]) := by
  refine ⟨rise_snoc (rise_up r.ri (by omega)) (fun g hg => ?_) (by dsimp only; omega) (by dsimp only; omega) (Int.le_refl _), fun j hj => ?_⟩
  · have := r.ri.mem g hg
    dsimp only
    rcases Int.lt_or_le g.2 t with c | c
    · exact c
    · exfalso
      rcases hp with q | q
      · omega
      · have h2 := r.hole (t - 1) (by omega)
        rw [inG_of hg (by omega) (by omega), q] at h2
        cases h2
  · rw [inG_app]
    simp only [inG, Bool.or_false]
    by_cases e : j = t
    · subst e; rw [h]; simp; right; omega
    · rw [r.hole j (by omega)]
      have : (decide ((t : Int) ≤ (j : Int)) && decide ((j : Int) < ((t + 1 : Nat) : Int))) = false := by simp; omega
      rw [this, Bool.or_false]
theorem Runs.longer {t : Nat} {out : List (Int × Int)} (r : Runs W t out) (h : hasAt W t = false) (h0 : t ≠ 0) (hp : hasAt W (t - 1) = false) : ∃ c y, out = c ++ [y] ∧ Runs W (t + 1) (c ++ [(y.1, ((t + 1 : Nat) : Int))]) := by
  have h2 := r.hole (t - 1) (by omega)
  rw [hp] at h2
  obtain ⟨g, hg, g1, g2⟩ := inG_mem h2
  rcases List.eq_nil_or_concat out with q | ⟨c, y, q⟩
  · subst q; cases hg
  · rw [List.concat_eq_append] at q
    subst q
    obtain ⟨k1, k2, k3, k4, k5⟩ := Rise.init r.ri
    have hgy : g = y := by
      rcases List.mem_append.1 hg with hx | hx
      · have := k2 g hx; omega
      · rw [List.mem_singleton] at hx; exact hx
    subst hgy
    refine ⟨c, g, rfl, rise_snoc (rise_up k1 (by omega)) k2 k3 (by dsimp only; omega) (Int.le_refl _), fun j hj => ?_⟩
    have hj2 : j < t → (inG (j : Int) c || (decide (g.1 ≤ (j : Int)) && decide ((j : Int) < g.2))) = !hasAt W j := fun q => by
      have := r.hole j q
      rw [inG_app] at this
      simpa [inG] using this
    rw [inG_app]
    simp only [inG, Bool.or_false]
    by_cases e : j = t
    · subst e; rw [h]; simp; right; omega
    · rw [← hj2 (by omega)]
      congr 1
      rw [Bool.eq_iff_iff]; simp; omega
theorem Runs.done {out : List (Int × Int)} (r : Rl S W) (q : Runs W (bnd S).toNat out) : out = S.gaps := by
  have gb := r.g.bnd_le
  have ri := q.ri
  rw [Int.toNat_of_nonneg (by omega)] at ri
  refine rise_eq ri r.g.ri fun i => ?_
  by_cases c : 0 ≤ i ∧ i < bnd S
  · have h1 := q.hole i.toNat (by omega)
    have h2 := r.hole i.toNat (by omega)
    rw [Int.toNat_of_nonneg c.1] at h1 h2
    rw [h1, h2]
  · have no : ∀ l, Rise (bnd S) (-1) l → inG i l = false := fun l hl => by
      rw [Bool.eq_false_iff]
      intro x
      obtain ⟨g, hg, g1, g2⟩ := inG_mem x
      have := hl.mem g hg
      omega
    rw [no _ ri, no _ r.g.ri]
theorem c29 (r : Rl S W) (H : Whl N w h W A D P) (k : ∀ s w1, Upd [] [] w w1 → Sees cG w1 s S.gaps → Own w.heap.size 2 w1 s → R (.slice s) w1) : Ret Try.prog 29 [.ptr (some ⟨h, 0, none⟩)] w R := by
  refine f29_of _ _ _ ?_
  unfold vc29
  have gb := r.g.bnd_le
  have gm := r.g.mx
  refine ⟨fun s n w' => Upd [] [] w w' ∧ ∃ (t : Nat) (out : List (Int × Int)), n = t ∧ (t : Int) ≤ bnd S ∧ Runs W t out ∧ Sees cG w' s out ∧ Own w.heap.size 2 w' s, fun _ n _ => (bnd S - n).toNat, ⟨Upd.refl w, 0, [], rfl, by omega, Runs.nil W, Sees.nil _ _ _ _, Own.none _ _ _⟩, ?_⟩
  rintro s n w1 ⟨u, t, out, rfl, ht, ru, hs, ho⟩
  have H1 := H.old u
  have hsl := hs.len
  have hol : (out.length : Int) ≤ t + 1 := by
    have := ru.ri.len (by omega) (by omega); omega
  refine c42 r H1 ⟨_, rfl, brd (fun hlt => ?_) (fun hge => ?_)⟩
  · intro J hJ
    have next : ∀ s' out' w2, Upd [] [] w w2 → Runs W (t + 1) out' → Sees cG w2 s' out' → Own w.heap.size 2 w2 s' → J s' w2 := fun s' out' w2 u2 a b c => hJ _ _ ⟨⟨u2, t + 1, out', wr_succ (by omega), by omega, a, b, c⟩, by rw [wr_succ (q := t) (by omega)]; (try dsimp only); omega⟩
    clear hJ
    have app : ∀ b1 w2, Upd [] [b1] w1 w2 → w2.heap[b1]? = some (.cells (SV.cells (.arr .i64 2 (fset (fset (fun _ => 0) 0 (t : Int)) 1 (wr .i64 ((t : Int) + 1))))).toArray 29 (0, 0)) → hasAt W t = false → (t = 0 ∨ hasAt W (t - 1) = true) → Append 29 2 16 s ⟨some ⟨b1, 0, none⟩, 1, 1⟩ [] w2 fun r w3 => J r w3 := fun b1 w2 u2 hr h1 h2 => by
      rw [wr_succ (by omega)] at hr
      refine append_own (c := cG) (new := [((t : Int), ((t + 1 : Nat) : Int))]) (hs.old u2) (ho.old u2) (sees_row hr _ rfl rfl) (u.then u2).size (by simp) (by decide) (by simp; omega) fun s3 w3 hs3 ho3 u3 _ => ?_
      exact next s3 _ w3 ((u.then u2).step0 u3 (fun x hx => (ho.blk x hx).1)) (ru.fresh h1 h2) hs3 ho3
    refine c43 H1 ⟨_, rfl, brb (fun hh => next s out w1 u (ru.skip hh) hs ho) (fun hh => bre (fun h0 => fun b1 w2 u2 hr => app b1 w2 u2 hr hh (.inl (by omega))) (fun h0 => ?_))⟩
    have e1 : wr .i64 ((t : Int) - 1) = ((t - 1 : Nat) : Int) := by rw [wr_i64 (by omega) (by omega)]; omega
    rw [e1]
    refine c43 H1 ⟨_, rfl, brb (fun hp => fun b1 w2 u2 hr => app b1 w2 u2 hr hh (.inr hp)) (fun hp => ?_)⟩
    obtain ⟨c, y, rfl, ru2⟩ := ru.longer hh (by omega) hp
    have hcl : s.len = c.length + 1 := by simpa using hsl
    have e2 : wr .i64 ((s.len : Int) - 1) = (c.length : Int) := by
      have : (c ++ [y]).length = c.length + 1 := by simp
      rw [wr_i64 (by omega) (by omega)]; omega
    rw [e2]
    refine needIx (by omega) (by omega) (hs.isSome (by decide) (by simp)) ?_
    rw [Int.toNat_natCast, wr_succ (by omega)]
    refine setG2 (i := c.length) hs ho (by simp) (by simp) fun w2 hs2 ho2 u2 => ?_
    have e3 : (c ++ [y]).set c.length ((c ++ [y])[c.length].1, ((t + 1 : Nat) : Int)) = c ++ [(y.1, ((t + 1 : Nat) : Int))] := by
      rw [List.set_append_right _ _ (Nat.le_refl _)]
      simp
    rw [e3] at hs2
    exact next s _ w2 (u.step0 u2 (fun x hx => (ho.blk x hx).1)) ru2 hs2 ho2
  · have : t = (bnd S).toNat := by omega
    subst this
    have := ru.done r
    subst this
    exact k s w1 u hs ho
end
end Go.Vc.S11
