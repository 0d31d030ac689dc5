import Derived.Test.YtopobapmncbjhaaVcC
namespace Go.Vc
set_option linter.unusedSimpArgs false
set_option linter.unusedVariables false
set_option autoImplicit false

/-- where a path leads: the place's number among the cells, and its type -/
def PathAt : Ty → List Nat → Nat → Ty → Prop
  | t, [], off, u => off = 0 ∧ u = t
  | .struct _ ts, i :: p, off, u => ∃ t o, nth ts i = some t ∧ PathAt t p o u ∧ off = Ty.off ts i + o
  | .arr k n, [i], off, u => i < n ∧ off = i ∧ u = .int k
  | _, _, _, _ => False

def RelV (X : Tab) (s : St) (v : Value) : SV → Prop
  | .lptr id off p => ∀ b t c, s.bx id = some (.box b t c) → v = .pointer (some ⟨b, off, none⟩) ∧ ∃ u, PathAt (X.T t) p off u
  | .box _ _ _ => False
  | sv => v = sv.enc

theorem relv_plain {X : Tab} {s : St} {v : Value} {x : SV} (h : plain x = true) : RelV X s v x ↔ v = x.enc := by
  cases x <;> simp [plain] at h <;> simp [RelV]

theorem relv_shape {X : Tab} {s : St} {v : Value} {x : SV} {t : Ty} (h : x.shape t = true) : RelV X s v x ↔ v = x.enc := relv_plain (shape_plain h)

theorem path_ty : ∀ {t : Ty} {p : List Nat} {off : Nat} {u : Ty}, PathAt t p off u → tyPath t p = some u
  | t, [], off, u, h => by cases t <;> simp_all [PathAt, tyPath]
  | .struct b ts, i :: p, off, u, h => by
    simp only [PathAt] at h
    obtain ⟨t, o, h1, h2, _⟩ := h
    simp only [tyPath, h1]
    exact path_ty h2
  | .arr k n, [i], off, u, h => by simp only [PathAt] at h; simp [tyPath, h.2.2]
  | .arr k n, i :: j :: p, off, u, h => by simp [PathAt] at h
  | .int _, _ :: _, _, _, h => by simp [PathAt] at h
  | .bool, _ :: _, _, _, h => by simp [PathAt] at h
  | .str, _ :: _, _, _, h => by simp [PathAt] at h
  | .ptr _, _ :: _, _, _, h => by simp [PathAt] at h
  | .slice _, _ :: _, _, _, h => by simp [PathAt] at h
  | .map, _ :: _, _, _, h => by simp [PathAt] at h
  | .tuple _, _ :: _, _, _, h => by simp [PathAt] at h
  | .other, _ :: _, _, _, h => by simp [PathAt] at h

theorem off_le : ∀ {ts : List Ty} {i : Nat} {t : Ty}, nth ts i = some t → Ty.off ts i + t.size ≤ Ty.sizes ts
  | [], i, t, h => by simp [nth] at h
  | x :: r, 0, t, h => by simp [nth] at h; subst h; simp [Ty.off, Ty.sizes]
  | x :: r, i + 1, t, h => by
    simp only [nth] at h
    have := off_le h
    simp only [Ty.off, Ty.sizes]
    omega

theorem path_le : ∀ {t : Ty} {p : List Nat} {off : Nat} {u : Ty}, PathAt t p off u → off + u.size ≤ t.size
  | t, [], off, u, h => by cases t <;> (simp only [PathAt] at h; obtain ⟨rfl, rfl⟩ := h; simp)
  | .struct b ts, i :: p, off, u, h => by
    simp only [PathAt] at h
    obtain ⟨t, o, h1, h2, rfl⟩ := h
    have := path_le h2
    have := off_le h1
    simp only [Ty.size]
    omega
  | .arr k n, [i], off, u, h => by simp only [PathAt] at h; obtain ⟨h1, rfl, rfl⟩ := h; simp only [Ty.size]; omega
  | .arr k n, i :: j :: p, off, u, h => by simp [PathAt] at h
  | .int _, _ :: _, _, _, h => by simp [PathAt] at h
  | .bool, _ :: _, _, _, h => by simp [PathAt] at h
  | .str, _ :: _, _, _, h => by simp [PathAt] at h
  | .ptr _, _ :: _, _, _, h => by simp [PathAt] at h
  | .slice _, _ :: _, _, _, h => by simp [PathAt] at h
  | .map, _ :: _, _, _, h => by simp [PathAt] at h
  | .tuple _, _ :: _, _, _, h => by simp [PathAt] at h
  | .other, _ :: _, _, _, h => by simp [PathAt] at h

theorem path_snoc : ∀ {t : Ty} {p : List Nat} {off : Nat} {b : Bool} {ts : List Ty} {i : Nat} {u : Ty}, PathAt t p off (.struct b ts) → nth ts i = some u → PathAt t (p ++ [i]) (off + Ty.off ts i) u
  | t, [], off, b, ts, i, u, h, hu => by
    cases t <;> simp only [PathAt] at h <;> (obtain ⟨rfl, h⟩ := h) <;> cases h
    simp only [List.nil_append, PathAt]
    exact ⟨u, 0, hu, by cases u <;> simp [PathAt], by omega⟩
  | .struct c us, j :: p, off, b, ts, i, u, h, hu => by
    simp only [PathAt] at h
    obtain ⟨t, o, h1, h2, rfl⟩ := h
    simp only [List.cons_append, PathAt]
    exact ⟨t, o + Ty.off ts i, h1, path_snoc h2 hu, by omega⟩
  | .arr k n, [j], off, b, ts, i, u, h, hu => by simp [PathAt] at h
  | .arr k n, j :: l :: p, off, b, ts, i, u, h, hu => by simp [PathAt] at h
  | .int _, _ :: _, _, _, _, _, _, h, _ => by simp [PathAt] at h
  | .bool, _ :: _, _, _, _, _, _, h, _ => by simp [PathAt] at h
  | .str, _ :: _, _, _, _, _, _, h, _ => by simp [PathAt] at h
  | .ptr _, _ :: _, _, _, _, _, _, h, _ => by simp [PathAt] at h
  | .slice _, _ :: _, _, _, _, _, _, h, _ => by simp [PathAt] at h
  | .map, _ :: _, _, _, _, _, _, h, _ => by simp [PathAt] at h
  | .tuple _, _ :: _, _, _, _, _, _, h, _ => by simp [PathAt] at h
  | .other, _ :: _, _, _, _, _, _, h, _ => by simp [PathAt] at h

theorem path_snoc_arr : ∀ {t : Ty} {p : List Nat} {off : Nat} {k : IntKind} {n i : Nat}, PathAt t p off (.arr k n) → i < n → PathAt t (p ++ [i]) (off + i) (.int k)
  | t, [], off, k, n, i, h, hi => by
    cases t <;> simp only [PathAt] at h <;> (obtain ⟨rfl, h⟩ := h) <;> cases h
    simp only [List.nil_append, PathAt]
    exact ⟨hi, by omega, trivial⟩
  | .struct c us, j :: p, off, k, n, i, h, hi => by
    simp only [PathAt] at h
    obtain ⟨t, o, h1, h2, rfl⟩ := h
    simp only [List.cons_append, PathAt]
    exact ⟨t, o + i, h1, path_snoc_arr h2 hi, by omega⟩
  | .arr k' n', [j], off, k, n, i, h, hi => by simp [PathAt] at h
  | .arr k' n', j :: l :: p, off, k, n, i, h, hi => by simp [PathAt] at h
  | .int _, _ :: _, _, _, _, _, h, _ => by simp [PathAt] at h
  | .bool, _ :: _, _, _, _, _, h, _ => by simp [PathAt] at h
  | .str, _ :: _, _, _, _, _, h, _ => by simp [PathAt] at h
  | .ptr _, _ :: _, _, _, _, _, h, _ => by simp [PathAt] at h
  | .slice _, _ :: _, _, _, _, _, h, _ => by simp [PathAt] at h
  | .map, _ :: _, _, _, _, _, h, _ => by simp [PathAt] at h
  | .tuple _, _ :: _, _, _, _, _, h, _ => by simp [PathAt] at h
  | .other, _ :: _, _, _, _, _, h, _ => by simp [PathAt] at h

theorem off_replicate (t : Ty) : ∀ (n i : Nat), i ≤ n → Ty.off (List.replicate n t) i = i * t.size
  | 0, i, h => by obtain rfl : i = 0 := by omega
                  simp [Ty.off]
  | n + 1, 0, h => by simp [Ty.off]
  | n + 1, i + 1, h => by
    simp only [List.replicate_succ, Ty.off, off_replicate t n i (by omega)]
    rw [Nat.add_mul, Nat.one_mul, Nat.add_comm]
theorem nth_replicate {α : Type} (x : α) (n i : Nat) (h : i < n) : nth (List.replicate n x) i = some x := by simp [nth_eq, h]

/-- the cells of a part of a list of values -/
theorem nth_split : ∀ {l : List SV} {ts : List Ty} {i : Nat} {x : SV}, SV.shapes l ts = true → nth l i = some x →
    ∃ t, nth ts i = some t ∧ x.shape t = true ∧ ∃ pre post, SV.cellsL l = pre ++ x.cells ++ post ∧ pre.length = Ty.off ts i ∧ ∀ y : SV, SV.cellsL (setNth l i y) = pre ++ y.cells ++ post
  | [], _, i, x, _, h => by simp [nth] at h
  | _ :: _, [], _, _, h, _ => by simp [SV.shapes] at h
  | y :: r, t :: ts, 0, x, hs, h => by
    simp [nth] at h; subst h
    simp only [SV.shapes, Bool.and_eq_true] at hs
    exact ⟨t, rfl, hs.1, [], SV.cellsL r, by simp [SV.cellsL], by simp [Ty.off], fun z => by simp [setNth, SV.cellsL]⟩
  | y :: r, t :: ts, i + 1, x, hs, h => by
    simp only [nth] at h
    simp only [SV.shapes, Bool.and_eq_true] at hs
    obtain ⟨u, h1, h2, pre, post, h3, h4, h5⟩ := nth_split hs.2 h
    exact ⟨u, by simpa [nth] using h1, h2, y.cells ++ pre, post, by simp [SV.cellsL, h3], by simp [Ty.off, shape_size hs.1, h4], fun z => by simp [setNth, SV.cellsL, h5]⟩

theorem nth_some_of_shapes : ∀ {l : List SV} {ts : List Ty} {i : Nat} {t : Ty}, SV.shapes l ts = true → nth ts i = some t → ∃ x, nth l i = some x ∧ x.shape t = true
  | [], [], i, t, _, h => by simp [nth] at h
  | [], _ :: _, _, _, h, _ => by simp [SV.shapes] at h
  | _ :: _, [], _, _, h, _ => by simp [SV.shapes] at h
  | y :: r, u :: ts, 0, t, hs, h => by
    simp [nth] at h; subst h
    simp only [SV.shapes, Bool.and_eq_true] at hs
    exact ⟨y, rfl, hs.1⟩
  | y :: r, u :: ts, i + 1, t, hs, h => by
    simp only [nth] at h
    simp only [SV.shapes, Bool.and_eq_true] at hs
    simpa [nth] using nth_some_of_shapes hs.2 h

theorem shapes_set : ∀ {l : List SV} {ts : List Ty} {i : Nat} {t : Ty} {y : SV}, SV.shapes l ts = true → nth ts i = some t → y.shape t = true → SV.shapes (setNth l i y) ts = true
  | [], [], i, t, y, _, h, _ => by simp [nth] at h
  | [], _ :: _, _, _, _, h, _, _ => by simp [SV.shapes] at h
  | _ :: _, [], _, _, _, h, _, _ => by simp [SV.shapes] at h
  | z :: r, u :: ts, 0, t, y, hs, h, hy => by
    simp [nth] at h; subst h
    simp only [SV.shapes, Bool.and_eq_true] at hs
    simp [setNth, SV.shapes, hy, hs.2]
  | z :: r, u :: ts, i + 1, t, y, hs, h, hy => by
    simp only [nth] at h
    simp only [SV.shapes, Bool.and_eq_true] at hs
    simp [setNth, SV.shapes, hs.1, shapes_set hs.2 h hy]

/-- what lies at a path, and what a store there leaves -/
theorem path_get : ∀ {c : SV} {t : Ty} {p : List Nat} {off : Nat} {u : Ty}, c.shape t = true → PathAt t p off u →
    ∃ x, getPath c p = some x ∧ x.shape u = true ∧ ∃ pre post, c.cells = pre ++ x.cells ++ post ∧ pre.length = off ∧
      ∀ y c', y.shape u = true → setPath c p y = some c' → c'.shape t = true ∧ c'.cells = pre ++ y.cells ++ post
  | c, t, [], off, u, hc, h => by
    have : off = 0 ∧ u = t := by cases t <;> simpa [PathAt] using h
    obtain ⟨rfl, rfl⟩ := this
    refine ⟨c, by cases c <;> rfl, hc, [], [], by simp, rfl, fun y c' hy h => ?_⟩
    have : c' = y := by cases c <;> simpa [setPath, eq_comm] using h
    subst this
    exact ⟨hy, by simp⟩
  | c, .struct b ts, i :: p, off, u, hc, h => by
    simp only [PathAt] at h
    obtain ⟨t, o, h1, h2, rfl⟩ := h
    cases c <;> simp [SV.shape] at hc
    rename_i l
    obtain ⟨x, hx, hxs⟩ := nth_some_of_shapes hc h1
    obtain ⟨t', ht', _, pre, post, hcells, hlen, hset⟩ := nth_split hc hx
    rw [h1] at ht'
    obtain rfl : t = t' := by simpa using ht'
    obtain ⟨y, hy, hys, pre', post', hcells', hlen', hset'⟩ := path_get hxs h2
    refine ⟨y, by simp [getPath, hx, hy], hys, pre ++ pre', post' ++ post, by simp [SV.cells, hcells, hcells'], by simp [hlen, hlen'], fun z c' hz hs => ?_⟩
    simp only [setPath, hx] at hs
    cases hz' : setPath x p z with
    | none => simp [hz'] at hs
    | some w =>
      simp [hz'] at hs
      subst hs
      obtain ⟨g1, g2⟩ := hset' z w hz hz'
      exact ⟨by simp [SV.shape, shapes_set hc h1 g1], by simp [SV.cells, hset, g2]⟩
  | c, .arr k n, [i], off, u, hc, h => by
    simp only [PathAt] at h
    obtain ⟨h1, hoff, rfl⟩ := h
    rw [hoff]
    clear hoff
    cases c <;> simp [SV.shape] at hc
    rename_i k' n' f
    obtain ⟨hk, rfl⟩ := hc
    obtain rfl := ksame_eq hk
    have hsp : ∀ g : Nat → Int, (List.range n').map (fun j => Value.int k' (g j)) = ((List.range i).map fun j => Value.int k' (g j)) ++ [Value.int k' (g i)] ++ ((List.range' (i + 1) (n' - (i + 1))).map fun j => Value.int k' (g j)) := by
      intro g
      have : List.range n' = List.range i ++ [i] ++ List.range' (i + 1) (n' - (i + 1)) := by
        rw [List.range_eq_range', List.range_eq_range', ← List.range'_one (s := i), List.append_assoc]
        have h2 := List.range'_append_1 (s := i) (m := 1) (n := n' - (i + 1))
        rw [h2]
        have h3 := List.range'_append_1 (s := 0) (m := i) (n := 1 + (n' - (i + 1)))
        rw [Nat.zero_add] at h3
        rw [h3]
        congr 1; omega
      rw [this]; simp
    refine ⟨.int k' (f i), by simp [getPath], by simp [SV.shape, ksame_refl], (List.range i).map fun j => Value.int k' (f j), (List.range' (i + 1) (n' - (i + 1))).map fun j => Value.int k' (f j), ?_, by simp, fun y c' hy hs => ?_⟩
    · simpa [SV.cells] using hsp f
    · cases y <;> simp [SV.shape] at hy
      rename_i k2 v
      obtain rfl := ksame_eq hy
      simp [setPath] at hs
      subst hs
      refine ⟨by simp [SV.shape, ksame_refl], ?_⟩
      simp only [SV.cells]
      rw [hsp]
      congr 1
      · congr 1
        · apply List.map_congr_left
          intro j hj
          have : j ≠ i := by simp at hj; omega
          simp [fset, nbeq_false.2 this]
        · simp [fset]
      · apply List.map_congr_left
        intro j hj
        have : j ≠ i := by simp at hj; omega
        simp [fset, nbeq_false.2 this]
  | _, .arr k n, i :: j :: p, off, u, _, h => by simp [PathAt] at h
  | _, .int _, _ :: _, _, _, _, h => by simp [PathAt] at h
  | _, .bool, _ :: _, _, _, _, h => by simp [PathAt] at h
  | _, .str, _ :: _, _, _, _, h => by simp [PathAt] at h
  | _, .ptr _, _ :: _, _, _, _, h => by simp [PathAt] at h
  | _, .slice _, _ :: _, _, _, _, h => by simp [PathAt] at h
  | _, .map, _ :: _, _, _, _, h => by simp [PathAt] at h
  | _, .tuple _, _ :: _, _, _, _, h => by simp [PathAt] at h
  | _, .other, _ :: _, _, _, _, h => by simp [PathAt] at h
end Go.Vc
