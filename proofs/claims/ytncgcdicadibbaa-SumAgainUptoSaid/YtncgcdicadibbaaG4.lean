import Derived.Test.YtncgcdicadibbaaG3
section
open Go Go.Vc Go.Proofs
set_option linter.unusedVariables false
set_option linter.unusedSimpArgs false
set_option autoImplicit false
namespace Go.Vc.S2

theorem c39 {n : Int} {w : World} {R : SV → World → Prop} (h0 : 0 ≤ n) (h1 : n < 9223372036854775808) (k : R (.int .i64 (fd n)) w) : Ret Try.prog 39 [.int .i64 n] w R := by
  refine f39_of _ _ _ ?_
  unfold vc39
  refine ⟨fun m w1 => w1 = w ∧ 0 ≤ m ∧ m < 9223372036854775808 ∧ fd m = fd n, fun m _ => m.toNat, ⟨rfl, h0, h1, rfl⟩, ?_⟩
  rintro m w1 ⟨rfl, a, b, c⟩
  refine brd (fun h => ?_) (fun h => ?_)
  · rw [and_65535, gshr16, wr_i64 (by omega) (by omega)]
    exact ⟨⟨rfl, by omega, by omega, by rw [fd_step h]; exact c⟩, by dsimp only; omega⟩
  · rw [fd_id a (by omega)] at c
    rw [c]; exact k

theorem c16 {parts : Sl} {ls : List (List Int)} {ss : List Sl} {w : World} {R : SV → World → Prop} (h : Parts w parts ls ss) (hb : ∀ l ∈ ls, Byt l) (hn : ls.length < 9223372036854775807) (hl : ∀ l ∈ ls, l.length ≤ 140737488355328)
    (k : R (.int .i64 (sumOf ls.flatten)) w) : Ret Try.prog 16 [.slice parts] w R := by
  refine f16_of _ _ _ ?_
  unfold vc16
  refine ⟨fun n b i w1 => w1 = w ∧ ∃ q : Nat, i = q ∧ q ≤ ls.length ∧ n = fd (ws true (ls.take q).flatten) ∧ b = par true (ls.take q).flatten.length, fun _ _ i _ => (ls.length - i).toNat, ⟨rfl, 0, rfl, by omega, by simp [ws, fd], by simp [par]⟩, ?_⟩
  rintro n b i w1 ⟨rfl, q, rfl, hq, rfl, rfl⟩
  have hw0 := ws_nonneg true (byt_flat_take hb q)
  have hf0 := fd_range hw0.1
  refine brd (fun hlt => ?_) (fun hge => ?_)
  · rw [h.slen] at hlt
    refine needP h (by omega) hlt ?_
    obtain ⟨h1, h2, hc, hs, hp⟩ := h.get (i := (q : Int)) (by omega) hlt
    refine ⟨_, hc, ?_⟩
    simp only [Int.toNat_natCast] at hs h1 h2 ⊢
    have hbp : Byt ls[q] := hb _ (List.getElem_mem _)
    have hlp := hl _ (List.getElem_mem h2)
    refine ⟨fun n b j w2 => w2 = w1 ∧ ∃ t : Nat, j = t ∧ t ≤ ls[q].length ∧ n = fd (ws true (ls.take q).flatten) + ws (par true (ls.take q).flatten.length) (ls[q].take t) ∧ b = par (par true (ls.take q).flatten.length) t,
      fun _ _ j _ => (ls[q].length - j).toNat, ⟨rfl, 0, rfl, by omega, by simp [ws], by simp [par]⟩, ?_⟩
    rintro n b j w2 ⟨rfl, t, rfl, ht, rfl, rfl⟩
    have hw1 := ws_nonneg (par true (ls.take q).flatten.length) (hbp.take t)
    have hlt1 : ((ls[q].take t).length : Int) ≤ 140737488355328 := by rw [List.length_take]; omega
    refine brd (fun hlt2 => ?_) (fun hge2 => ?_)
    · rw [hs.len] at hlt2
      refine needB hs (by omega) hlt2 ?_
      refine ⟨_, hs.byte (by omega) hlt2, ?_⟩
      have hbb := hbp.bt (t : Int)
      have hls : ((ls[q].take t).length : Int) = t := by rw [List.length_take]; omega
      have hsn := ws_snoc (ls[q].take t) ls[q][t] (par true (ls.take q).flatten.length)
      rw [← take_snoc (by omega), ← bt_nat (by omega)] at hsn
      have hbt : par (par true (ls.take q).flatten.length) (ls[q].take t).length = par (par true (ls.take q).flatten.length) t := by congr 1; rw [List.length_take]; omega
      rw [hbt] at hsn
      rw [wr_i64 (x := bt ls[q] t) (by omega) (by omega), gshl8, wr_i64 (x := bt ls[q] t * 256) (by omega) (by omega), wr_i64 (x := (t : Int) + 1) (by omega) (by omega)]
      refine fun J hJ => brb (fun e => ?_) (fun e => ?_)
      · rw [e] at hsn
        refine hJ _ _ ⟨⟨rfl, t + 1, by push_cast; rfl, by omega, ?_, ?_⟩, by dsimp only; omega⟩
        · rw [hsn, wr_i64 (by omega) (by omega)]; simp; omega
        · rw [← par_succ]; simp only [par]; split <;> rfl
      · rw [e] at hsn
        refine hJ _ _ ⟨⟨rfl, t + 1, by push_cast; rfl, by omega, ?_, ?_⟩, by dsimp only; omega⟩
        · rw [hsn, wr_i64 (by omega) (by omega)]; simp; omega
        · rw [← par_succ]; simp only [par]; split <;> rfl
    · have ht' : t = ls[q].length := by rw [hs.len] at hge2; omega
      subst ht'
      rw [List.take_length] at hw1 ⊢
      refine c39 (by omega) (by omega) ⟨_, rfl, ⟨rfl, q + 1, ?_, by omega, ?_, ?_⟩, ?_⟩
      · rw [wr_i64 (by omega) (by omega)]; push_cast; rfl
      · rw [flat_snoc h2, ws_app, fd_add' hw0.1 hw1.1]
      · rw [flat_snoc h2, List.length_append]
        rw [par_par]
      · rw [wr_i64 (by omega) (by omega)]; omega
  · rw [h.slen] at hge
    have : q = ls.length := by omega
    subst this
    rw [List.take_length]
    exact k

theorem c17 {parts : Sl} {ls : List (List Int)} {ss : List Sl} {w : World} {R : SV → World → Prop} (h : Parts w parts ls ss) (hb : ∀ l ∈ ls, Byt l) (hn : ls.length < 9223372036854775807) (hl : ∀ l ∈ ls, l.length ≤ 140737488355328)
    (k : R (.int .i64 (65535 - sumOf ls.flatten)) w) : Ret Try.prog 17 [.slice parts] w R := by
  refine f17_of _ _ _ ?_
  unfold vc17
  refine c16 h hb hn hl ⟨_, rfl, ?_⟩
  have := fd_range (ws_nonneg true (byt_flat hb)).1
  rw [wr_i64 (by unfold sumOf; omega) (by unfold sumOf; omega)]
  exact k
theorem c18 {parts : Sl} {ls : List (List Int)} {ss : List Sl} {w : World} {R : SV → World → Prop} (h : Parts w parts ls ss) (hb : ∀ l ∈ ls, Byt l) (hn : ls.length < 9223372036854775807) (hl : ∀ l ∈ ls, l.length ≤ 140737488355328)
    (k : R (.bool (sumOf ls.flatten == 65535)) w) : Ret Try.prog 18 [.slice parts] w R := by
  refine f18_of _ _ _ ?_
  unfold vc18
  exact c16 h hb hn hl ⟨_, rfl, k⟩
end Go.Vc.S2
end

section
namespace Go.Vc
set_option linter.unusedVariables false
set_option linter.unusedSimpArgs false
set_option autoImplicit false

/-! ### bytes out of a row, arrays -/
/-- bytes within a row -/
theorem rowMid {w : World} {b e n cap o : Nat} {f : Nat × Nat} {cs : List Value} (h : w.heap[b]? = some (.cells cs.toArray e f)) (pre post : List Value) (l : List Int) (hl : cs = pre ++ cU8.cells l ++ post) (ho : o = pre.length) (hn : n = l.length) :
    SeesB w ⟨some ⟨b, o, none⟩, n, cap⟩ l := by
  subst hl ho hn
  refine ⟨rfl, fun i hi => ?_⟩
  rw [add_none, cell_of_block h]
  simp [List.getElem?_append_right, List.getElem?_append_left, hi]
def arrL (n : Nat) (f : Nat → Int) : List Int := (List.range n).map f
theorem arrL_len (n : Nat) (f : Nat → Int) : (arrL n f).length = n := by simp [arrL]
theorem arrL_cells (k : Nat) (f : Nat → Int) : SV.cells (.arr .u8 k f) = cU8.cells (arrL k f) := by
  rw [Cod.cells_map1 (fun _ => rfl)]
  simp [SV.cells, arrL]
theorem arrL_bt {n : Nat} {f : Nat → Int} {i : Int} (h0 : 0 ≤ i) (h : i < n) : bt (arrL n f) i = f i.toNat := by
  rw [bt_int h0 (by rw [arrL_len]; omega)]
  simp [arrL]
theorem arrL_byt {n : Nat} {f : Nat → Int} (h : ∀ i, i < n → 0 ≤ f i ∧ f i < 256) : Byt (arrL n f) := by
  intro x hx
  obtain ⟨i, hi, rfl⟩ := List.mem_map.1 hx
  exact h i (List.mem_range.1 hi)
theorem eqArr_iff {n : Nat} {f g : Nat → Int} : eqArr n f g = true ↔ ∀ i, i < n → f i = g i := by
  unfold eqArr
  simp
theorem eqArr_dec {n : Nat} {f g : Nat → Int} : eqArr n f g = decide (arrL n f = arrL n g) := by
  rw [Bool.eq_iff_iff, eqArr_iff, decide_eq_true_iff]
  unfold arrL
  rw [List.map_inj_left]
  simp
theorem wr_nat1 {q : Nat} (h : q < 9223372036854775807) : wr .i64 ((q : Int) + 1) = ((q + 1 : Nat) : Int) := wr_succ h

/-! ### loops that many functions have -/
section
variable {w : World} {s : Sl} {l : List Int}
/-- all places are written with one value -/
theorem fill_loop {N : Nat} {bs : List Nat} {v : Int} {vs : List Value} {K : World → Prop} {C : (Int → World → Prop) → (Int → World → Nat) → Int → World → World → Prop}
    (h : SeesB w s l) (o : Own N 1 w s) (hl : l.length < 9223372036854775807) (hv : vs = [.int .u8 v]) (hbs : ∀ b ∈ s.blk, b ∉ bs)
    (hC : ∀ I M n w w', I (wr .i64 (n + 1)) w' → M (wr .i64 (n + 1)) w' < M n w → C I M n w w')
    (k : ∀ w1, Upd s.blk [] w w1 → SeesB w1 s (List.replicate l.length v) → Own N 1 w1 s → K w1) :
    ∃ (I : Int → World → Prop), ∃ (M : Int → World → Nat), I 0 w ∧ ∀ (n : Int) (w1 : World), I n w1 →
      Br (decide (n < (s.len : Int))) (Need (decide (0 ≤ n) && decide (n < (s.len : Int)) && s.ptr.isSome) (Store w1 (s.at 1 n.toNat) vs bs fun w2 => C I M n w1 w2)) (K w1) := by
  refine ⟨fun n w1 => Upd s.blk [] w w1 ∧ Own N 1 w1 s ∧ ∃ t : Nat, n = t ∧ t ≤ l.length ∧ SeesB w1 s (List.replicate t v ++ l.drop t), fun n _ => (l.length - n).toNat, ⟨(Upd.refl w).wide (by simp), o, 0, rfl, by omega, by simpa using h⟩, ?_⟩
  rintro n w1 ⟨u, o1, t, rfl, ht, hs⟩
  have hsl := h.len
  refine brd (fun hlt => ?_) (fun hge => ?_)
  · have hlen : (List.replicate t v ++ l.drop t).length = l.length := by simp; omega
    refine needB hs (by omega) (by omega) (own_set (c := cU8) (x := v) hs o1 (by decide) (by omega) hv hbs fun w2 hs2 o2 u2 => ?_)
    refine hC _ _ _ _ _ ⟨u.step u2 (fun b hb => .inr hb), o2, t + 1, wr_succ (by omega), by omega, ?_⟩ (by rw [wr_succ (by omega)]; (try dsimp only); omega)
    have e : (List.replicate t v ++ l.drop t).set t v = List.replicate (t + 1) v ++ l.drop (t + 1) := by
      rw [List.set_append_right _ _ (by simp), List.length_replicate, Nat.sub_self, List.drop_eq_getElem_cons (show t < l.length by omega), List.set_cons_zero, List.replicate_succ', List.append_assoc]
      rfl
    rw [Int.toNat_natCast] at hs2
    rwa [e] at hs2
  · have : t = l.length := by omega
    subst this
    exact k w1 u (by simpa using hs) o1
/-- are all places this value? (they are) -/
theorem all_loop {v : Int} {K F : World → Prop} {C : (Int → World → Prop) → (Int → World → Nat) → Int → World → Prop} {m : Nat}
    (h : SeesB w s l) (hl : l.length < 9223372036854775807) (hv : l = List.replicate m v)
    (hC : ∀ (I : Int → World → Prop) (M : Int → World → Nat) n w, I (wr .i64 (n + 1)) w → M (wr .i64 (n + 1)) w < M n w → C I M n w) (k : K w) :
    ∃ (I : Int → World → Prop), ∃ (M : Int → World → Nat), I 0 w ∧ ∀ (n : Int) (w1 : World), I n w1 →
      Br (decide (n < (s.len : Int))) (Need (decide (0 ≤ n) && decide (n < (s.len : Int)) && s.ptr.isSome) (∃ x : Int, w1.cell? (s.at 1 n.toNat) = some (.int .u8 x) ∧ Br (x != v) (F w1) (C I M n w1))) (K w1) := by
  refine ⟨fun n w1 => w1 = w ∧ ∃ t : Nat, n = t ∧ t ≤ l.length, fun n _ => (l.length - n).toNat, ⟨rfl, 0, rfl, by omega⟩, ?_⟩
  rintro n w1 ⟨rfl, t, rfl, ht⟩
  have hsl := h.len
  refine brd (fun hlt => ?_) (fun hge => k)
  refine needB h (by omega) (by omega) ⟨_, h.byte (by omega) (by omega), ?_⟩
  have : bt l (t : Int) = v := by
    rw [bt_nat (by omega)]
    subst hv
    simp
  rw [this]
  exact brf (by simp) (hC _ _ _ _ ⟨rfl, t + 1, wr_succ (by omega), by omega⟩ (by rw [wr_succ (by omega)]; (try dsimp only); omega))
end
end Go.Vc
end

section
namespace Go.Vc
set_option linter.unusedVariables false
set_option linter.unusedSimpArgs false
set_option autoImplicit false
theorem arrL_succ (n : Nat) (f : Nat → Int) : arrL (n + 1) f = arrL n f ++ [f n] := by simp [arrL, List.range_succ]
/-- an array's bytes are appended one by one -/
theorem app_loop {w w0 : World} {s : Sl} {l : List Int} {f : Nat → Int} {m : Nat} {mi : Int} {e e' : Nat} {cells : Int → List Value} {bs : List Nat} {K : Sl → World → Prop} {C : (Sl → Int → World → Prop) → (Sl → Int → World → Nat) → Sl → Int → World → Sl → World → Prop}
    (hm : mi = m) (u : Upd [] [] w0 w) (h : SeesB w s l) (o : Own w0.heap.size 1 w s) (hl : l.length + m ≤ 70368744177664) (hcells : ∀ t : Nat, t < m → cells (t : Int) = [.int .u8 (f t)]) (hbs : ∀ b ∈ bs, b < w0.heap.size)
    (hC : ∀ (I : Sl → Int → World → Prop) (M : Sl → Int → World → Nat) s n w r w', I r (wr .i64 (n + 1)) w' → M r (wr .i64 (n + 1)) w' < M s n w → C I M s n w r w')
    (k : ∀ s w1, Upd [] [] w0 w1 → SeesB w1 s (l ++ arrL m f) → Own w0.heap.size 1 w1 s → K s w1) :
    ∃ (I : Sl → Int → World → Prop), ∃ (M : Sl → Int → World → Nat), I s 0 w ∧ ∀ (s : Sl) (n : Int) (w1 : World), I s n w1 →
      Br (decide (n < mi)) (Need (decide (0 ≤ n) && decide (n < mi)) (∀ (b : Nat) (w2 : World), Upd [] [b] w1 w2 → w2.heap[b]? = some (.cells (cells n).toArray e (0, 0)) → Append e' 1 1 s ⟨some ⟨b, 0, none⟩, 1, 1⟩ bs w2 fun r w3 => C I M s n w1 r w3)) (K s w1) := by
  subst hm
  refine ⟨fun s n w1 => Upd [] [] w0 w1 ∧ Own w0.heap.size 1 w1 s ∧ ∃ t : Nat, n = t ∧ t ≤ m ∧ SeesB w1 s (l ++ arrL t f), fun _ n _ => (m - n).toNat, ⟨u, o, 0, rfl, by omega, by simpa [arrL] using h⟩, ?_⟩
  rintro s n w1 ⟨u, o, t, rfl, ht, hs⟩
  refine brd (fun hlt => ?_) (fun hge => ?_)
  · refine needIx2 (by omega) hlt ?_
    intro b w2 u2 hrow
    rw [hcells t (by omega)] at hrow
    have ho2 := o.old u2
    have v2 := u.then u2
    refine append_own (c := cU8) (new := [f t]) (hs.old u2) ho2 (rowB hrow _ rfl rfl) v2.size (fun b hb hmem => by have := (ho2.blk b hb).1; have := hbs b hmem; omega) (by omega) (by simp [arrL_len]; omega) fun r w3 hr3 ho3 u3 _ => ?_
    refine hC _ _ _ _ _ _ _ ⟨v2.step0 u3 (fun b hb => (ho2.blk b hb).1), ho3, t + 1, wr_succ (by omega), by omega, ?_⟩ (by rw [wr_succ (by omega)]; (try dsimp only); omega)
    rw [arrL_succ, ← List.append_assoc]
    exact hr3
  · have : t = m := by omega
    subst this
    exact k s w1 u hs o
end Go.Vc
end

section
namespace Go.Vc
set_option linter.unusedVariables false
set_option linter.unusedSimpArgs false
set_option autoImplicit false
theorem sub_blk {s : Sl} {sz l h m : Nat} : ∀ b ∈ (s.sub sz l h m).blk, b ∈ s.blk := by
  intro b hb
  unfold Sl.sub Sl.blk at hb
  unfold Sl.blk
  cases hrp : s.ptr with
  | none => rw [hrp] at hb; simp at hb
  | some a =>
    rw [hrp] at hb
    simp only [Option.map_some] at hb
    split at hb
    · cases hb
    · rename_i h1
      split at h1
      · simp at h1; subst h1; exact hb
      · simp at h1; subst h1; simpa using hb
theorem Cells.lt {w : World} {a : Addr} {vs : List Value} (h : Cells w (some a) vs) (hne : vs ≠ []) : a.block < w.heap.size := by
  have := h 0 (List.length_pos_iff.2 hne)
  simpa using cell_lt this
/-- blocks that came later are written -/
theorem Sees.upd' {α : Type} {c : Cod α} {w0 w w1 : World} {s : Sl} {l : List α} {m n : List Nat} (h0 : Sees c w0 s l) (h : Sees c w s l) (u : Upd m n w w1) (hm : ∀ b ∈ m, w0.heap.size ≤ b) : Sees c w1 s l :=
  ⟨h.len, h.row.upd u (fun a ha hne hmem => by
    have h1 := h0.row
    rw [ha] at h1
    have := h1.lt hne
    have := hm _ hmem
    omega)⟩
theorem Parts.upd' {w0 w w1 : World} {s : Sl} {ls : List (List Int)} {ss : List Sl} {m n : List Nat} (h0 : Parts w0 s ls ss) (h : Parts w s ls ss) (u : Upd m n w w1) (hm : ∀ b ∈ m, w0.heap.size ≤ b) : Parts w1 s ls ss :=
  ⟨h0.row.upd' h.row u hm, h.len, fun i hi => (h0.each i hi).upd' (h.each i hi) u hm⟩
end Go.Vc
namespace Go.Vc
theorem zeros_cells (m : Nat) : zerosOf (.int .u8) m = cU8.cells (List.replicate m 0) := by
  rw [Cod.cells_map1 (fun _ => rfl)]
  unfold zerosOf
  induction m with
  | zero => rfl
  | succ m ih => rw [List.replicate_succ, List.flatten_cons, ih, List.replicate_succ]; rfl
theorem imin_le (a b : Int) : imin a b ≤ a ∧ imin a b ≤ b ∧ (imin a b = a ∨ imin a b = b) := by unfold imin; split <;> omega
theorem imax_ge (a b : Int) : a ≤ imax a b ∧ b ≤ imax a b ∧ (imax a b = a ∨ imax a b = b) := by unfold imax; split <;> omega
end Go.Vc
end

section
namespace Go.Vc
set_option linter.unusedVariables false
set_option linter.unusedSimpArgs false
set_option autoImplicit false
section
variable {α : Type} {c : Cod α} {w w1 : World} {s : Sl} {l : List α}
/-- append, both ways apart: in place (the same pointer), or to new memory -/
theorem appendN_two {N e by_ n : Nat} {new : List α} {bs : List Nat} {F : Sl → World → Prop} (h : Sees c w s l) (o : Own N c.sz w s) (hN : N ≤ w.heap.size) (hn : n = new.length)
    (hbs : ∀ b ∈ s.blk, b ∉ bs) (hpos : 0 < by_) (hb : (l.length + new.length) * by_ ≤ 140737488355328)
    (k1 : ∀ r w1, Sees c w1 r (l ++ new) → Own N c.sz w1 r → r.ptr = s.ptr → Upd s.blk [] w w1 → (∀ N sz x, Own N sz w x → Own N sz w1 x) → w1.heap.size = w.heap.size → F r w1)
    (k2 : ∀ r w1, Sees c w1 r (l ++ new) → Own w.heap.size c.sz w1 r → Upd [] [] w w1 → F r w1) : AppendN e c.sz by_ s n (c.cells new) bs w F := by
  have hlen := h.len
  refine ⟨fun hfit => ?_, fun hgrow => ?_⟩
  · subst hn
    cases hp : s.ptr with
    | none =>
      have h0 := o.nil hp
      have e1 : new = [] := by cases new with | nil => rfl | cons => simp at hfit; omega
      subst e1
      have el : (⟨none, s.len + ([] : List α).length, s.cap⟩ : Sl) = s := by cases s; simp at hp; subst hp; rfl
      show F ⟨none, s.len + ([] : List α).length, s.cap⟩ w
      rw [el]
      exact k1 s w (by simpa using h) o rfl ((Upd.refl w).wide (by simp)) (fun _ _ _ h => h) rfl
    | some a =>
      obtain ⟨hs, hc⟩ := o.cell a hp
      have hmul : (s.len + new.length) * c.sz ≤ s.cap * c.sz := Nat.mul_le_mul_right _ hfit
      rw [Nat.add_mul] at hmul
      have hlc := c.cells_length new
      have hll := c.cells_length l
      have hrow := h.row
      rw [hp] at hrow
      refine ⟨fun i hi => ?_, ?_, ?_⟩
      · rw [add_add]
        exact hc _ (by omega)
      · simp only [add_block]
        exact hbs _ (by simp [blk_some hp])
      · show F _ (w.setCells (a.add (s.len * c.sz)).block (a.add (s.len * c.sz)).off (c.cells new))
        rw [off_add hs, add_block]
        refine k1 _ _ ⟨by simp [hlen], ?_⟩ ?_ hp.symm ((Upd.setCells w a.block _ _).wide (by simp [blk_some hp])) (fun _ _ _ h => h.setCells _ _ _) (setCells_size _ _ _ _)
        · rw [c.cells_append]
          refine Cells.mk ?_ ?_
          · have := cells_apart (vs := c.cells new) hs (s.len * c.sz) 0 (by simpa using hrow) (.inl (by rw [hll, hlen]; omega))
            simpa using this
          · rw [hll, ← hlen]
            exact cells_write hs _ (fun i hi => (hc _ (by omega)).1)
        · have := (o.setCells a.block (a.off + s.len * c.sz) (c.cells new))
          exact ⟨by simp; omega, by simp, by simpa [Sl.blk, hp] using this.blk, fun a' ha' => by simp at ha'; subst ha'; exact this.cell a hp⟩
  · have main := appendN_full (e := e) (by_ := by_) (n := n) (bs := bs) (F := F) (s := ⟨s.ptr, s.len, s.len⟩) (new := new) (w := w) (l := l) ⟨h.len, h.row⟩ (Nat.le_refl _) hn
    by_cases hn0 : 0 < n
    · have m2 := (main hn0 hpos hb k2).2 (by show s.len < s.len + n; omega)
      refine ⟨m2.1, ?_, m2.2.2⟩
      rw [h.len] at hgrow ⊢
      subst hn
      exact growslice_fits hgrow hb
    · have := o.le; omega
theorem append_two {N e by_ : Nat} {x : Sl} {new : List α} {bs : List Nat} {F : Sl → World → Prop} (h : Sees c w s l) (o : Own N c.sz w s) (hx : Sees c w x new) (hN : N ≤ w.heap.size)
    (hbs : ∀ b ∈ s.blk, b ∉ bs) (hpos : 0 < by_) (hb : (l.length + new.length) * by_ ≤ 140737488355328)
    (k1 : ∀ r w1, Sees c w1 r (l ++ new) → Own N c.sz w1 r → r.ptr = s.ptr → Upd s.blk [] w w1 → (∀ N sz x, Own N sz w x → Own N sz w1 x) → w1.heap.size = w.heap.size → F r w1)
    (k2 : ∀ r w1, Sees c w1 r (l ++ new) → Own w.heap.size c.sz w1 r → Upd [] [] w w1 → F r w1) : Append e c.sz by_ s x bs w F :=
  ⟨c.cells new, hx.rowAt, appendN_two h o hN hx.len hbs hpos hb k1 k2⟩
theorem blk_ptr {r s : Sl} (h : r.ptr = s.ptr) : r.blk = s.blk := by unfold Sl.blk; rw [h]
/-- a slice with another's pointer sees the other's beginning -/
theorem Sees.prefix_ {r : Sl} {l' : List α} (h : Sees c w r l') (hp : r.ptr = s.ptr) (hl : l' = l ++ l'.drop l.length) (hs : s.len = l.length) : Sees c w s l := by
  have := h.take (n := l.length) (by rw [hl]; simp) s.cap
  rw [hl, List.take_left] at this
  rw [hp, ← hs] at this
  exact this
end
end Go.Vc
end

section
namespace Go.Vc
set_option linter.unusedVariables false
set_option linter.unusedSimpArgs false
set_option autoImplicit false
/-- two slices in different arrays -/
def Apt (x y : Sl) : Prop := ∀ b ∈ x.blk, b ∉ y.blk
theorem Apt.symm {x y : Sl} (h : Apt x y) : Apt y x := fun b hb hm => h b hm hb
theorem apt_of {N M sz sz' : Nat} {w w' : World} {x y : Sl} (hx : Own N sz w x) (hy : Own M sz' w' y) (h : w.heap.size ≤ M) : Apt x y := fun b hb hm => by
  have := (hx.blk b hb).2
  have := (hy.blk b hm).1
  omega
/-- a list of lists of bytes, each in an array of its own -/
structure Lot (N : Nat) (w : World) (L : Sl) (ls : List (List Int)) (gs : List Sl) : Prop where
  parts : Parts w L ls gs
  own : Own N 1 w L
  owns : ∀ x ∈ gs, Own N 1 w x
  dis : gs.Pairwise Apt
  off : ∀ x ∈ gs, Apt x L
theorem Lot.nil (N : Nat) (w : World) : Lot N w ⟨none, 0, 0⟩ [] [] := ⟨Parts.nil _ _ _, Own.none _ _ _, by simp, by simp, by simp⟩
theorem Lot.old {N : Nat} {w w1 : World} {L : Sl} {ls : List (List Int)} {gs : List Sl} {n : List Nat} (h : Lot N w L ls gs) (u : Upd [] n w w1) : Lot N w1 L ls gs :=
  ⟨h.parts.old u, h.own.old u, fun x hx => (h.owns x hx).old u, h.dis, h.off⟩
theorem Lot.app {N M b e e' : Nat} {w : World} {L : Sl} {ls nl : List (List Int)} {gs ns : List Sl} {bs : List Nat} {F : Sl → World → Prop} {cs : List Value} {k0 : Nat} (h : Lot N w L ls gs)
    (hrow : w.heap[b]? = some (.cells cs.toArray e (0, 0))) (hcs : cs = cSl.cells ns) (hk0 : k0 = ns.length) (hns : AllB w ns nl) (hown : ∀ x ∈ ns, Own M 1 w x) (hd : ns.Pairwise Apt) (hg : ∀ x ∈ gs, ∀ b ∈ x.blk, b < M) (hL : ∀ b ∈ L.blk, b < M) (hNM : N ≤ M)
    (hNw : N ≤ w.heap.size) (hb : (gs.length + ns.length) * 24 ≤ 140737488355328) (hbs : ∀ x ∈ bs, x < N)
    (k : ∀ r w1, Lot N w1 r (ls ++ nl) (gs ++ ns) → Upd L.blk [] w w1 → F r w1) : Append e' 1 24 L ⟨some ⟨b, 0, none⟩, k0, k0⟩ bs w F := by
  subst hcs hk0
  refine append_own (c := cSl) (new := ns) h.parts.row h.own (sees_row hrow _ rfl rfl) hNw (fun x hx hm => by have := (h.own.blk x hx).1; have := hbs x hm; omega) (by decide) hb fun r w1 hr ho u hnew => ?_
  have hlen := hns.len
  have hgl := h.parts.len
  have dg : ∀ x ∈ gs, ∀ b ∈ x.blk, b ∉ L.blk := h.off
  have dn : ∀ x ∈ ns, ∀ b ∈ x.blk, b ∉ L.blk := fun x hx b hb hm => by have := ((hown x hx).blk b hb).1; have := hL b hm; omega
  refine k r w1 ⟨⟨hr, by simp [hgl, hlen], fun i hi => ?_⟩, ho, ?_, ?_, ?_⟩ u
  · by_cases hi2 : i < ls.length
    · rw [List.getElem_append_left (by rw [hgl]; exact hi2), List.getElem_append_left hi2]
      exact (h.parts.each i hi2).upd u (dg _ (List.getElem_mem _))
    · rw [List.getElem_append_right (by rw [hgl]; omega), List.getElem_append_right (by omega)]
      have := hns.get (i - ls.length) (by simp at hi; omega)
      simp only [hgl]
      exact this.upd u (dn _ (List.getElem_mem _))
  · intro x hx
    rcases List.mem_append.1 hx with hx | hx
    · exact (h.owns x hx).upd u (dg x hx)
    · exact ((hown x hx).upd u (dn x hx)).mono hNM
  · rw [List.pairwise_append]
    refine ⟨h.dis, hd, fun x hx y hy b hb hm => ?_⟩
    have := hg x hx b hb
    have := ((hown y hy).blk b hm).1
    omega
  · intro x hx b hb hm
    rcases List.mem_append.1 hx with hx | hx
    · rcases hnew b hm with h1 | h1
      · exact dg x hx b hb h1
      · have := ((h.owns x hx).blk b hb).2; omega
    · rcases hnew b hm with h1 | h1
      · exact dn x hx b hb h1
      · have := ((hown x hx).blk b hb).2; omega
theorem Lot.blks {N : Nat} {w : World} {L : Sl} {ls : List (List Int)} {gs : List Sl} (h : Lot N w L ls gs) : ∀ b ∈ gs.flatMap Sl.blk, N ≤ b ∧ b < w.heap.size := by
  intro b hb
  obtain ⟨x, hx, hb⟩ := List.mem_flatMap.1 hb
  exact (h.owns x hx).blk b hb
theorem Lot.index {N : Nat} {w : World} {L : Sl} {ls : List (List Int)} {gs : List Sl} (h : Lot N w L ls gs) : ∀ i j (hi : i < gs.length) (hj : j < gs.length), i ≠ j → ∀ b ∈ gs[i].blk, b ∉ gs[j].blk := by
  intro i j hi hj hne
  rcases Nat.lt_or_gt_of_ne hne with h1 | h1
  · exact List.pairwise_iff_getElem.1 h.dis i j hi hj h1
  · exact (List.pairwise_iff_getElem.1 h.dis j i hj hi h1 : Apt _ _).symm
end Go.Vc
end

section
namespace Go.Vc
set_option linter.unusedVariables false
set_option linter.unusedSimpArgs false
set_option autoImplicit false
theorem needC {i n : Int} {o : Option Addr} {X : Prop} (h1 : i < n) (h2 : o.isSome = true) (x : X) : Need (decide (i < n) && o.isSome) X := need (by simp [h1, h2]) x
theorem needIxT {i n : Int} {X : Prop} (h0 : 0 ≤ i) (h1 : i < n) (x : X) : Need (decide (0 ≤ i) && decide (i < n) && true) X := need (by simp [h0, h1]) x
theorem byteC {w : World} {s : Sl} {l : List Int} (h : SeesB w s l) (i : Nat) (hi : i < l.length) : w.cell? (s.at 1 i) = some (.int .u8 (bt l i)) := by
  have := h.byte (i := (i : Int)) (by omega) (by omega)
  rwa [Int.toNat_natCast] at this
/-- a byte at a place that is written as a number -/
theorem needCB {w : World} {s : Sl} {l : List Int} (h : SeesB w s l) (i : Nat) {X : Prop} (hi : i < l.length) (x : X) : Need (decide ((i : Int) < (s.len : Int)) && s.ptr.isSome) X :=
  needC (by rw [h.len]; omega) (h.isSome (by decide) (by omega)) x
theorem flat1 {α : Type} (l : List α) : [l].flatten = l := by simp
theorem kp {bs : List Nat} {w w1 : World} {n : List Nat} (u : Upd [] n w w1) : Keeps bs w w1 := .inl u.forget
/-- blocks that stood, kept -/
theorem kpm {bs m n : List Nat} {w w1 : World} (u : Upd m n w w1) (h : ∀ b ∈ bs, b < w.heap.size) (hd : ∀ b ∈ bs, b ∉ m) : Keeps bs w w1 := .inr fun b hb => u.keep b (h b hb) (hd b hb)
theorem Own.blk_lt {N sz : Nat} {w : World} {s : Sl} (h : Own N sz w s) : ∀ b ∈ s.blk, b < w.heap.size := fun b hb => (h.blk b hb).2
theorem rep_add (n m : Nat) (v : Int) : List.replicate n v ++ List.replicate m v = List.replicate (n + m) v := List.replicate_append_replicate
end Go.Vc
end

section
namespace Go.Vc
set_option linter.unusedVariables false
set_option linter.unusedSimpArgs false
set_option autoImplicit false

/-! ### bits of bytes -/
theorem par2 (y : Int) (n : Nat) : y % 2 ^ (n + 1) = y / 2 % 2 ^ n * 2 + y % 2 := by
  have hp : (2 : Int) ^ (n + 1) = 2 * 2 ^ n := by rw [Int.pow_succ, Int.mul_comm]
  have h0 : (0 : Int) < 2 ^ n := Int.pow_pos (by decide)
  have e1 : y = y / 2 * 2 + y % 2 := by omega
  have e2 : y / 2 = 2 ^ n * (y / 2 / 2 ^ n) + y / 2 % 2 ^ n := by have := Int.mul_ediv_add_emod (y / 2) (2 ^ n); omega
  have h1 := Int.emod_nonneg (y / 2) (Int.ne_of_gt h0)
  have h2 := Int.emod_lt_of_pos (y / 2) h0
  have e3 : y = 2 ^ (n + 1) * (y / 2 / 2 ^ n) + (y / 2 % 2 ^ n * 2 + y % 2) := by
    rw [hp, Int.mul_assoc]
    have : 2 * (2 ^ n * (y / 2 / 2 ^ n)) = 2 * (y / 2) - 2 * (y / 2 % 2 ^ n) := by omega
    omega
  have h3 : 0 ≤ y / 2 % 2 ^ n * 2 + y % 2 ∧ y / 2 % 2 ^ n * 2 + y % 2 < 2 ^ (n + 1) := by omega
  calc y % 2 ^ (n + 1) = (2 ^ (n + 1) * (y / 2 / 2 ^ n) + (y / 2 % 2 ^ n * 2 + y % 2)) % 2 ^ (n + 1) := by rw [← e3]
    _ = (y / 2 % 2 ^ n * 2 + y % 2) % 2 ^ (n + 1) := by rw [Int.add_comm, Int.add_mul_emod_self_left]
    _ = _ := Int.emod_eq_of_lt h3.1 h3.2

def bitAt (l : List Int) (j : Nat) : Int := bt l ((j / 8 : Nat) : Int) / 2 ^ (7 - j % 8) % 2
/-- n bits from o on, as a number -/
def bitsN (l : List Int) (o : Nat) : Nat → Int
  | 0 => 0
  | n + 1 => bitsN l o n * 2 + bitAt l (o + n)
theorem bitAt_r (l : List Int) (j : Nat) : 0 ≤ bitAt l j ∧ bitAt l j ≤ 1 := by unfold bitAt; omega
theorem bitsN_r (l : List Int) (o : Nat) : ∀ n, 0 ≤ bitsN l o n ∧ bitsN l o n < 2 ^ n
  | 0 => by simp [bitsN]
  | n + 1 => by
    have := bitsN_r l o n
    have := bitAt_r l (o + n)
    rw [Int.pow_succ]
    unfold bitsN
    omega
theorem bitsN_add (l : List Int) (o n : Nat) : ∀ m, bitsN l o (n + m) = bitsN l o n * 2 ^ m + bitsN l (o + n) m
  | 0 => by simp [bitsN]
  | m + 1 => by
    rw [← Nat.add_assoc, bitsN, bitsN_add l o n m, bitsN, Int.pow_succ, Nat.add_assoc, Int.add_mul, Int.mul_assoc]
    omega
/-- bits within one byte -/
theorem bitsN_in (l : List Int) (o q r : Nat) (ho : o = 8 * q + r) : ∀ n, r + n ≤ 8 → bitsN l o n = bt l (q : Int) / 2 ^ (8 - r - n) % 2 ^ n
  | 0, _ => by simp only [bitsN]; omega
  | n + 1, h => by
    subst ho
    have ih := bitsN_in l _ q r rfl n (by omega)
    have e1 : (8 * q + r + n) / 8 = q := by omega
    have e2 : 7 - (8 * q + r + n) % 8 = 8 - r - (n + 1) := by omega
    rw [bitsN, ih, bitAt, e1, e2, par2]
    have e3 : bt l (q : Int) / 2 ^ (8 - r - (n + 1)) / 2 = bt l (q : Int) / 2 ^ (8 - r - n) := by
      rw [show 8 - r - n = (8 - r - (n + 1)) + 1 by omega, Int.pow_succ]
      rw [Int.ediv_ediv_of_nonneg (by exact Int.le_of_lt (Int.pow_pos (by decide)))]
    rw [e3]
theorem bitsN_byte {l : List Int} (hb : Byt l) (q : Nat) : bitsN l (8 * q) 8 = bt l (q : Int) := by
  have := bitsN_in l (8 * q) q 0 (by omega) 8 (by omega)
  have := hb.bt (q : Int)
  simp at *
  omega
theorem bitsN_two {l : List Int} (hb : Byt l) (q : Nat) : bitsN l (8 * q) 16 = bt l (q : Int) * 256 + bt l ((q + 1 : Nat) : Int) := by
  have := bitsN_add l (8 * q) 8 8
  rw [bitsN_byte hb, show 8 * q + 8 = 8 * (q + 1) by omega, bitsN_byte hb] at this
  simpa using this
theorem bitsN_four {l : List Int} (hb : Byt l) (q : Nat) : bitsN l (8 * q) 32 = ((bt l (q : Int) * 256 + bt l ((q + 1 : Nat) : Int)) * 256 + bt l ((q + 2 : Nat) : Int)) * 256 + bt l ((q + 3 : Nat) : Int) := by
  have := bitsN_add l (8 * q) 16 16
  rw [bitsN_two hb, show 8 * q + 16 = 8 * (q + 2) by omega, bitsN_two hb] at this
  have e : ((q + 2 + 1 : Nat) : Int) = ((q + 3 : Nat) : Int) := rfl
  rw [show (2 : Int) ^ 16 = 65536 from rfl] at this
  show bitsN l (8 * q) (16 + 16) = _
  rw [this, e]
  omega

/-- the widths' sum -/
def wsum : List Int → Nat
  | [] => 0
  | w :: r => w.toNat + wsum r
theorem wsum_app : ∀ (a b : List Int), wsum (a ++ b) = wsum a + wsum b
  | [], b => by simp [wsum]
  | x :: a, b => by simp [wsum, wsum_app a b]; omega
theorem wsum_take_succ {l : List Int} {k : Nat} (h : k < l.length) : wsum (l.take (k + 1)) = wsum (l.take k) + (l[k]).toNat := by
  rw [take_snoc h, wsum_app]; simp [wsum]
theorem wsum_take_le (l : List Int) (k : Nat) : wsum (l.take k) ≤ wsum l := by
  have := congrArg wsum (List.take_append_drop k l)
  rw [wsum_app] at this
  omega
/-- the fields of these widths from bit o on -/
def fieldsOf (l : List Int) : Nat → List Int → List Int
  | _, [] => []
  | o, w :: r => bitsN l o w.toNat :: fieldsOf l (o + w.toNat) r
theorem fieldsOf_len (l : List Int) : ∀ (o : Nat) (ws : List Int), (fieldsOf l o ws).length = ws.length
  | _, [] => rfl
  | o, w :: r => by simp [fieldsOf, fieldsOf_len l _ r]
theorem fieldsOf_app (l : List Int) : ∀ (a b : List Int) (o : Nat), fieldsOf l o (a ++ b) = fieldsOf l o a ++ fieldsOf l (o + wsum a) b
  | [], b, o => by simp [fieldsOf, wsum]
  | x :: a, b, o => by simp [fieldsOf, wsum, fieldsOf_app l a b, Nat.add_assoc]
theorem fieldsOf_snoc (l : List Int) {ws : List Int} {k : Nat} (h : k < ws.length) : fieldsOf l 0 (ws.take (k + 1)) = fieldsOf l 0 (ws.take k) ++ [bitsN l (wsum (ws.take k)) (ws[k]).toNat] := by
  rw [take_snoc h, fieldsOf_app]; simp [fieldsOf]

/-! ### fields put together -/
/-- bit j of the fields that are written -/
def strm : List Int → List Int → Nat → Int
  | w :: ws, v :: vs, j => if j < w.toNat then v / 2 ^ (w.toNat - 1 - j) % 2 else strm ws vs (j - w.toNat)
  | _, _, _ => 0
theorem strm_r : ∀ (ws vs : List Int) (j : Nat), 0 ≤ strm ws vs j ∧ strm ws vs j ≤ 1
  | [], _, _ => by simp [strm]
  | _ :: _, [], _ => by simp [strm]
  | w :: ws, v :: vs, j => by
    unfold strm
    split
    · omega
    · exact strm_r ws vs _
theorem strm_at : ∀ (ws vs : List Int) (i m : Nat) (h : i < ws.length) (h2 : i < vs.length), m < (ws[i]).toNat → strm ws vs (wsum (ws.take i) + m) = vs[i] / 2 ^ ((ws[i]).toNat - 1 - m) % 2
  | w :: ws, v :: vs, 0, m, _, _, hm => by
    simp at hm
    simp [strm, wsum]
    intro h; omega
  | w :: ws, v :: vs, i + 1, m, h, h2, hm => by
    have := strm_at ws vs i m (by simpa using h) (by simpa using h2) (by simpa using hm)
    simp only [List.take_succ_cons, wsum, strm]
    rw [if_neg (by omega), show w.toNat + wsum (List.take i ws) + m - w.toNat = wsum (ws.take i) + m by omega, this]
    simp
/-- byte i, of which t bits are written -/
def byteT (S : Nat → Int) (t i : Nat) : Int :=
  let g := fun k : Nat => if 8 * i + k < t then S (8 * i + k) else 0
  g 0 * 128 + g 1 * 64 + g 2 * 32 + g 3 * 16 + g 4 * 8 + g 5 * 4 + g 6 * 2 + g 7
def bytesT (S : Nat → Int) (n t : Nat) : List Int := (List.range n).map (byteT S t)
theorem bytesT_len (S : Nat → Int) (n t : Nat) : (bytesT S n t).length = n := by simp [bytesT]
theorem byteT_r {S : Nat → Int} (hS : ∀ j, 0 ≤ S j ∧ S j ≤ 1) (t i : Nat) : 0 ≤ byteT S t i ∧ byteT S t i < 256 := by
  have g : ∀ k : Nat, 0 ≤ (if 8 * i + k < t then S (8 * i + k) else 0) ∧ (if 8 * i + k < t then S (8 * i + k) else 0) ≤ 1 := fun k => by
    split
    · exact hS _
    · omega
  have := g 0; have := g 1; have := g 2; have := g 3; have := g 4; have := g 5; have := g 6; have := g 7
  simp only [byteT]
  omega
theorem bytesT_byt {S : Nat → Int} (hS : ∀ j, 0 ≤ S j ∧ S j ≤ 1) (n t : Nat) : Byt (bytesT S n t) := fun x hx => by
  obtain ⟨i, _, rfl⟩ := List.mem_map.1 hx
  exact byteT_r hS t i
theorem bytesT_zero (S : Nat → Int) (n : Nat) : bytesT S n 0 = List.replicate n 0 := by
  refine List.ext_getElem (by simp [bytesT]) fun i h1 h2 => ?_
  simp [bytesT, byteT]
/-- one more bit -/
theorem byteT_step {S : Nat → Int} (hS : ∀ j, 0 ≤ S j ∧ S j ≤ 1) (t : Nat) : byteT S (t + 1) (t / 8) = byteT S t (t / 8) + S t * 2 ^ (7 - t % 8) ∧ byteT S t (t / 8) % 2 ^ (8 - t % 8) = 0 := by
  obtain ⟨q, r, hr, rfl⟩ : ∃ q r, r < 8 ∧ t = 8 * q + r := ⟨t / 8, t % 8, by omega, by omega⟩
  have e1 : (8 * q + r) / 8 = q := by omega
  have e2 : (8 * q + r) % 8 = r := by omega
  rw [e1, e2]
  have d : ∀ a b : Nat, (8 * q + a < 8 * q + b) = (a < b) := fun a b => by apply propext; omega
  have d2 : ∀ a b : Nat, (8 * q + a < 8 * q + b + 1) = (a < b + 1) := fun a b => by apply propext; omega
  simp only [byteT, d, d2]
  rcases (by omega : r = 0 ∨ r = 1 ∨ r = 2 ∨ r = 3 ∨ r = 4 ∨ r = 5 ∨ r = 6 ∨ r = 7) with rfl | rfl | rfl | rfl | rfl | rfl | rfl | rfl <;> simp <;> omega
theorem byteT_off (S : Nat → Int) (t i : Nat) (h : i ≠ t / 8) : byteT S (t + 1) i = byteT S t i := by
  have d : ∀ k : Nat, k < 8 → ((8 * i + k < t + 1) = (8 * i + k < t)) := fun k hk => by apply propext; omega
  simp only [byteT, d 0 (by omega), d 1 (by omega), d 2 (by omega), d 3 (by omega), d 4 (by omega), d 5 (by omega), d 6 (by omega), d 7 (by omega)]
theorem bytesT_set {S : Nat → Int} (hS : ∀ j, 0 ≤ S j ∧ S j ≤ 1) (n t : Nat) : (bytesT S n t).set (t / 8) (byteT S t (t / 8) + S t * 2 ^ (7 - t % 8)) = bytesT S n (t + 1) := by
  refine List.ext_getElem (by simp [bytesT]) fun i h1 h2 => ?_
  rw [List.getElem_set]
  split
  · rename_i h
    subst h
    simp only [bytesT, List.getElem_map, List.getElem_range]
    exact (byteT_step hS t).1.symm
  · rename_i h
    simp only [bytesT, List.getElem_map, List.getElem_range]
    exact (byteT_off S t i (fun e => h e.symm)).symm
/-- the fields' bytes -/
def packB (ws vs : List Int) (n : Nat) : List Int := bytesT (strm ws vs) n (8 * n)
theorem packB_len (ws vs : List Int) (n : Nat) : (packB ws vs n).length = n := bytesT_len _ _ _
theorem packB_byt (ws vs : List Int) (n : Nat) : Byt (packB ws vs n) := bytesT_byt (strm_r ws vs) _ _
end Go.Vc
end
