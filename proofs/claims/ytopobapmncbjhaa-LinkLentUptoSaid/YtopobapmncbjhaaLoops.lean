import Derived.Test.YtopobapmncbjhaaParts
namespace Go.Vc
set_option linter.unusedVariables false
set_option linter.unusedSimpArgs false
set_option autoImplicit false

/-! ### bytes out of a row, arrays -/
/-- bytes within a row -/
theorem rowMid {w : World} {b e n cap o : Nat} {f : Nat × Nat} {cs : List Value} (h : w.heap[b]? = some (.cells cs.toArray e f)) (pre post : List Value) (l : List Int) (hl : cs = pre ++ cU8.cells l ++ post) (ho : o = pre.length) (hn : n = l.length) :
    SeesB w ⟨some ⟨b, o, none⟩, n, cap⟩ l := by
  subst hl ho hn
  refine ⟨rfl, fun i hi => ?_⟩
  rw [add_none, cell_of_block h]
  simp [List.getElem?_append_right, List.getElem?_append_left, hi]
def arrL (n : Nat) (f : Nat → Int) : List Int := (List.range n).map f
theorem arrL_len (n : Nat) (f : Nat → Int) : (arrL n f).length = n := by simp [arrL]
theorem arrL_cells (k : Nat) (f : Nat → Int) : SV.cells (.arr .u8 k f) = cU8.cells (arrL k f) := by
  rw [Cod.cells_map1 (fun _ => rfl)]
  simp [SV.cells, arrL]
theorem arrL_bt {n : Nat} {f : Nat → Int} {i : Int} (h0 : 0 ≤ i) (h : i < n) : bt (arrL n f) i = f i.toNat := by
  rw [bt_int h0 (by rw [arrL_len]; omega)]
  simp [arrL]
theorem arrL_byt {n : Nat} {f : Nat → Int} (h : ∀ i, i < n → 0 ≤ f i ∧ f i < 256) : Byt (arrL n f) := by
  intro x hx
  obtain ⟨i, hi, rfl⟩ := List.mem_map.1 hx
  exact h i (List.mem_range.1 hi)
theorem eqArr_iff {n : Nat} {f g : Nat → Int} : eqArr n f g = true ↔ ∀ i, i < n → f i = g i := by
  unfold eqArr
  simp
theorem eqArr_dec {n : Nat} {f g : Nat → Int} : eqArr n f g = decide (arrL n f = arrL n g) := by
  rw [Bool.eq_iff_iff, eqArr_iff, decide_eq_true_iff]
  unfold arrL
  rw [List.map_inj_left]
  simp
theorem wr_nat1 {q : Nat} (h : q < 9223372036854775807) : wr .i64 ((q : Int) + 1) = ((q + 1 : Nat) : Int) := wr_succ h

/-! ### loops that many functions have -/
section
variable {w : World} {s : Sl} {l : List Int}
/-- all places are written with one value -/
theorem fill_loop {N : Nat} {bs : List Nat} {v : Int} {vs : List Value} {K : World → Prop} {C : (Int → World → Prop) → (Int → World → Nat) → Int → World → World → Prop}
    (h : SeesB w s l) (o : Own N 1 w s) (hl : l.length < 9223372036854775807) (hv : vs = [.int .u8 v]) (hbs : ∀ b ∈ s.blk, b ∉ bs)
    (hC : ∀ I M n w w', I (wr .i64 (n + 1)) w' → M (wr .i64 (n + 1)) w' < M n w → C I M n w w')
    (k : ∀ w1, Upd s.blk [] w w1 → SeesB w1 s (List.replicate l.length v) → Own N 1 w1 s → K w1) :
    ∃ (I : Int → World → Prop), ∃ (M : Int → World → Nat), I 0 w ∧ ∀ (n : Int) (w1 : World), I n w1 →
      Br (decide (n < (s.len : Int))) (Need (decide (0 ≤ n) && decide (n < (s.len : Int)) && s.ptr.isSome) (Store w1 (s.at 1 n.toNat) vs bs fun w2 => C I M n w1 w2)) (K w1) := by
  refine ⟨fun n w1 => Upd s.blk [] w w1 ∧ Own N 1 w1 s ∧ ∃ t : Nat, n = t ∧ t ≤ l.length ∧ SeesB w1 s (List.replicate t v ++ l.drop t), fun n _ => (l.length - n).toNat, ⟨(Upd.refl w).wide (by simp), o, 0, rfl, by omega, by simpa using h⟩, ?_⟩
  rintro n w1 ⟨u, o1, t, rfl, ht, hs⟩
  have hsl := h.len
  refine brd (fun hlt => ?_) (fun hge => ?_)
  · have hlen : (List.replicate t v ++ l.drop t).length = l.length := by simp; omega
    refine needB hs (by omega) (by omega) (own_set (c := cU8) (x := v) hs o1 (by decide) (by omega) hv hbs fun w2 hs2 o2 u2 => ?_)
    refine hC _ _ _ _ _ ⟨u.step u2 (fun b hb => .inr hb), o2, t + 1, wr_succ (by omega), by omega, ?_⟩ (by rw [wr_succ (by omega)]; (try dsimp only); omega)
    have e : (List.replicate t v ++ l.drop t).set t v = List.replicate (t + 1) v ++ l.drop (t + 1) := by
      rw [List.set_append_right _ _ (by simp), List.length_replicate, Nat.sub_self, List.drop_eq_getElem_cons (show t < l.length by omega), List.set_cons_zero, List.replicate_succ', List.append_assoc]
      rfl
    rw [Int.toNat_natCast] at hs2
    rwa [e] at hs2
  · have : t = l.length := by omega
    subst this
    exact k w1 u (by simpa using hs) o1
/-- are all places this value? (they are) -/
theorem all_loop {v : Int} {K F : World → Prop} {C : (Int → World → Prop) → (Int → World → Nat) → Int → World → Prop} {m : Nat}
    (h : SeesB w s l) (hl : l.length < 9223372036854775807) (hv : l = List.replicate m v)
    (hC : ∀ (I : Int → World → Prop) (M : Int → World → Nat) n w, I (wr .i64 (n + 1)) w → M (wr .i64 (n + 1)) w < M n w → C I M n w) (k : K w) :
    ∃ (I : Int → World → Prop), ∃ (M : Int → World → Nat), I 0 w ∧ ∀ (n : Int) (w1 : World), I n w1 →
      Br (decide (n < (s.len : Int))) (Need (decide (0 ≤ n) && decide (n < (s.len : Int)) && s.ptr.isSome) (∃ x : Int, w1.cell? (s.at 1 n.toNat) = some (.int .u8 x) ∧ Br (x != v) (F w1) (C I M n w1))) (K w1) := by
  refine ⟨fun n w1 => w1 = w ∧ ∃ t : Nat, n = t ∧ t ≤ l.length, fun n _ => (l.length - n).toNat, ⟨rfl, 0, rfl, by omega⟩, ?_⟩
  rintro n w1 ⟨rfl, t, rfl, ht⟩
  have hsl := h.len
  refine brd (fun hlt => ?_) (fun hge => k)
  refine needB h (by omega) (by omega) ⟨_, h.byte (by omega) (by omega), ?_⟩
  have : bt l (t : Int) = v := by
    rw [bt_nat (by omega)]
    subst hv
    simp
  rw [this]
  exact brf (by simp) (hC _ _ _ _ ⟨rfl, t + 1, wr_succ (by omega), by omega⟩ (by rw [wr_succ (by omega)]; (try dsimp only); omega))
end
end Go.Vc
