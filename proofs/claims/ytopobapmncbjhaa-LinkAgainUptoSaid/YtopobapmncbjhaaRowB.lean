import Derived.Test.YtopobapmncbjhaaRowA
import Derived.Test.YtopobapmncbjhaaG4
namespace Go.Vc
set_option linter.unusedVariables false
set_option linter.unusedSimpArgs false
set_option autoImplicit false
section
variable {H : Type} {X : Tab} {w : World}
theorem all3_nil {R : Ty → SV → DataW H → Prop} {xs : List SV} {ds : List (DataW H)} (h : All3 R [] xs ds) : xs = [] ∧ ds = [] := by
  cases xs <;> cases ds <;> simp [All3] at h
  exact ⟨rfl, rfl⟩
theorem all3_cons {R : Ty → SV → DataW H → Prop} {t : Ty} {ts : List Ty} {xs : List SV} {ds : List (DataW H)} (h : All3 R (t :: ts) xs ds) :
    ∃ x xs' d ds', xs = x :: xs' ∧ ds = d :: ds' ∧ R t x d ∧ All3 R ts xs' ds' := by
  cases xs <;> cases ds <;> simp [All3] at h
  exact ⟨_, _, _, _, rfl, rfl, h.1, h.2⟩
theorem dp_struct {m : Nat} {b : Bool} {ts : List Ty} {x : SV} {d : DataW H} (h : Deep X w m (.struct b ts) x d) : ∃ fs l m', x = .struct fs ∧ d = .agg l ∧ All3 (Deep X w m') ts fs l := by
  cases m with
  | zero => exact h.elim
  | succ m => simp only [Deep] at h; obtain ⟨fs, l, h1, h2, h3⟩ := h; exact ⟨fs, l, m, h1, h2, h3⟩
theorem dp_int {m : Nat} {k : IntKind} {x : SV} {d : DataW H} (h : Deep X w m (.int k) x d) : ∃ n, x = .int k n ∧ d = .lit (.int k n) ∧ (Lit.int k n).wf = true := by
  cases m with
  | zero => exact h.elim
  | succ m => simpa only [Deep] using h
theorem dp_bool {m : Nat} {x : SV} {d : DataW H} (h : Deep X w m .bool x d) : ∃ n, x = .bool n ∧ d = .lit (.bool n) := by
  cases m with
  | zero => exact h.elim
  | succ m => simpa only [Deep] using h
theorem dp_arr8 {m n : Nat} {x : SV} {d : DataW H} (h : Deep X w m (.arr .u8 n) x d) : ∃ f l, x = .arr .u8 n f ∧ d = .agg l ∧ l.length = n ∧ ∀ i, i < n → 0 ≤ f i ∧ f i < 256 := by
  cases m with
  | zero => exact h.elim
  | succ m =>
    simp only [Deep] at h
    obtain ⟨f, l, h1, h2, h3, h4⟩ := h
    exact ⟨f, l, h1, h2, h3, fun i hi => wf_u8 (h4 i hi).2⟩
/-- an address -/
theorem dp_ip {m : Nat} {x : SV} {d : DataW H} (h : Deep X w m (.struct false [.int .i64, .arr .u8 16]) x d) :
    ∃ (v : Int) (a : Nat → Int), x = .struct [.int .i64 v, .arr .u8 16 a] ∧ (-9223372036854775808 ≤ v ∧ v ≤ 9223372036854775807) ∧ ∀ i, i < 16 → 0 ≤ a i ∧ a i < 256 := by
  obtain ⟨fs, l, m', rfl, rfl, q⟩ := dp_struct h
  obtain ⟨x, _, _, _, rfl, rfl, h1, q⟩ := all3_cons q
  obtain ⟨y, _, _, _, rfl, rfl, h2, q⟩ := all3_cons q
  obtain ⟨rfl, rfl⟩ := all3_nil q
  obtain ⟨v, rfl, _, hw⟩ := dp_int h1
  obtain ⟨a, _, rfl, _, _, ha⟩ := dp_arr8 h2
  exact ⟨v, a, rfl, wf_i64 hw, ha⟩
theorem deep_ip {m t : Nat} {x : SV} {d : DataW H} (hT : X.T t = .struct false [.int .i64, .arr .u8 16]) (h : Deep X w m (X.T t) x d) :
    ∃ (v : Int) (a : Nat → Int), x = .struct [.int .i64 v, .arr .u8 16 a] ∧ (-9223372036854775808 ≤ v ∧ v ≤ 9223372036854775807) ∧ ∀ i, i < 16 → 0 ≤ a i ∧ a i < 256 := by
  rw [hT] at h; exact dp_ip h
/-- slices of bytes -/
theorem deep_parts {m t e e2 : Nat} {x : SV} {d : DataW H} (hT : X.T t = .slice e) (hE : X.T e = .slice e2) (hE2 : X.T e2 = .int .u8) (h : Deep X w m (X.T t) x d) :
    ∃ (s : Sl) (ls : List (List Int)) (ss : List Sl), x = .slice s ∧ Parts w s ls ss ∧ (∀ l ∈ ls, Byt l) ∧ s.len ≤ s.cap ∧ s.cap ≤ maxLen ∧ (∀ y ∈ ss, y.len ≤ y.cap) ∧
      (d = .nil ∧ ls = [] ∨ ∃ els sp, d = .slice els sp ∧ els.length = ls.length ∧ ∀ i (hi : i < ls.length), ∃ m', Deep X w m' (X.T e) (.slice (ss.getD i Sl.nil)) (els.getD i .nil)) := by
  rw [hT] at h
  cases m with
  | zero => exact h.elim
  | succ m =>
    simp only [Deep] at h
    rcases h with ⟨rfl, rfl⟩ | ⟨a, len, cap, vs, ds, rfl, rfl, hl, hm, hv, hd, h⟩
    · exact ⟨⟨none, 0, 0⟩, [], [], rfl, Parts.nil _ _ _, by simp, Nat.le_refl _, by simp [maxLen], by simp, .inl ⟨rfl, rfl⟩⟩
    · have each : ∀ i (hi : i < cap), ∃ (s : Sl) (l : List Int), vs[i]'(by omega) = .slice s ∧ SeesB w s l ∧ Byt l ∧ s.len ≤ s.cap ∧ w.cell? (a.add i) = some s.val ∧ Deep X w m (X.T e) (.slice s) (ds[i]'(by omega)) := by
        intro i hi
        obtain ⟨h1, h2, h3⟩ := h i _ _ (List.getElem?_eq_getElem (by omega)) (List.getElem?_eq_getElem (by omega))
        obtain ⟨s, l, g1, g2, g3, g4, _⟩ := deep_bytes hE hE2 h3
        refine ⟨s, l, g1, g2, g3, g4, ?_, g1 ▸ h3⟩
        have := h2 0 (by rw [g1]; simp [SV.cells])
        rw [hE] at this
        simpa [g1, SV.cells, Ty.size] using this
      let sl : SV → Sl := fun v => match v with | .slice s => s | _ => ⟨none, 0, 0⟩
      have hsl : ∀ i (hi : i < cap), vs[i]'(by omega) = .slice (sl (vs[i]'(by omega))) := by
        intro i hi
        obtain ⟨s, _, g1, _⟩ := each i hi
        rw [g1]
      let F : Nat → List Int := fun i => if hi : i < cap then Classical.choose (Classical.choose_spec (each i hi)) else []
      have hF : ∀ i (hi : i < cap), SeesB w (sl (vs[i]'(by omega))) (F i) ∧ Byt (F i) ∧ (sl (vs[i]'(by omega))).len ≤ (sl (vs[i]'(by omega))).cap ∧ w.cell? (a.add i) = some (sl (vs[i]'(by omega))).val ∧ Deep X w m (X.T e) (.slice (sl (vs[i]'(by omega)))) (ds[i]'(by omega)) := by
        intro i hi
        have hs := Classical.choose_spec (Classical.choose_spec (each i hi))
        have e1 : sl (vs[i]'(by omega)) = Classical.choose (each i hi) := congrArg sl hs.1
        have e2 : F i = Classical.choose (Classical.choose_spec (each i hi)) := by simp [F, hi]
        rw [e1, e2]
        exact hs.2
      refine ⟨⟨some a, len, cap⟩, (List.range len).map F, (vs.take len).map sl, rfl, ⟨⟨by simp; omega, ?_⟩, by simp; omega, ?_⟩, ?_, hl, hm, ?_, .inr ⟨_, _, rfl, by simp; omega, ?_⟩⟩
      · intro i hi
        have hc : cSl.cells ((vs.take len).map sl) = ((vs.take len).map sl).map Sl.val := Cod.cells_map1 (fun _ => rfl) _
        simp only [hc, List.getElem_map, List.getElem_take]
        rw [hc] at hi
        simp at hi
        exact (hF i (by omega)).2.2.2.1
      · intro i hi
        simp at hi
        simp only [List.getElem_map, List.getElem_take, List.getElem_range]
        exact (hF i (by omega)).1
      · intro l hl'
        obtain ⟨i, hi, rfl⟩ := List.mem_map.1 hl'
        exact (hF i (by have := List.mem_range.1 hi; omega)).2.1
      · intro y hy
        obtain ⟨v, hv', rfl⟩ := List.mem_map.1 hy
        obtain ⟨i, hi, rfl⟩ := List.getElem_of_mem hv'
        simp at hi
        simp only [List.getElem_take]
        exact (hF i (by omega)).2.2.1
      · intro i hi
        simp at hi
        have e1 : ((vs.take len).map sl).getD i Sl.nil = sl (vs[i]'(by omega)) := by
          rw [List.getD_eq_getElem?_getD, List.getElem?_eq_getElem (by simp; omega)]
          simp
        have e2 : (ds.take len).getD i .nil = ds[i]'(by omega) := by
          rw [List.getD_eq_getElem?_getD, List.getElem?_eq_getElem (by simp; omega)]
          simp
        rw [e1, e2]
        exact ⟨m, (hF i (by omega)).2.2.2.2⟩
end
end Go.Vc
