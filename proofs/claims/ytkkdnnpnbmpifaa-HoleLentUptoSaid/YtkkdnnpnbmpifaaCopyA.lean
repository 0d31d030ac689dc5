import Derived.Test.YtkkdnnpnbmpifaaG5
namespace Go.Vc
set_option linter.unusedVariables false
set_option linter.unusedSimpArgs false
set_option autoImplicit false
/-- bytes copied into the middle of a row -/
theorem copy_mid {w : World} {b e n cap o : Nat} {pre mid post cs : List Value} {d x : Sl} {m : List Int} {bs : List Nat} {F : World → Prop} (h : w.heap[b]? = some (.cells cs.toArray e (0, 0))) (hcs : cs = pre ++ mid ++ post) (hx : SeesB w x m)
    (hd : d = ⟨some ⟨b, o, none⟩, n, cap⟩) (ho : o = pre.length) (hn : n ≤ m.length) (hm : mid.length = n) (hbs : b ∉ bs)
    (k : ∀ w1, w1.heap[b]? = some (.cells (pre ++ cU8.cells (m.take n) ++ post).toArray e (0, 0)) → Upd [b] [] w w1 → F w1) : Copy 1 d x bs w F := by
  subst hd hcs ho
  have hxl := hx.len
  have hl : (cU8.cells (m.take n)).length = n := by rw [Cod.cells_length, List.length_take]; simp [cU8]; omega
  refine ⟨cU8.cells (m.take n), ?_, ?_⟩
  · have := (hx.take (n := n) hn 0).rowAt
    rw [show Nat.min x.len n * 1 = n * cU8.sz by rw [show cU8.sz = 1 from rfl, hxl]; simp [Nat.min_def]; omega]
    exact this
  · refine ⟨fun i hi => ?_, hbs, ?_⟩
    · rw [add_none, cell_of_block h, frozen_of_block h]
      refine ⟨?_, rfl⟩
      simp; omega
    · refine k _ ?_ ((Upd.setCells w b _ _).wide (by simp))
      exact setCells_at b e (0, 0) _ pre mid post w h (by omega)
theorem cells_range (n : Nat) (f : Nat → Int) : SV.cells (.arr .u8 n f) = (List.range n).map fun i => Value.int .u8 (f i) := rfl
theorem u8cells (l : List Int) : cU8.cells l = l.map fun n => Value.int .u8 n := Cod.cells_map1 (fun _ => rfl) l
/-- a piece of a slice that is all but its own pointer -/
theorem sub_lit {b o n cap h m : Nat} (hm : m ≠ 0) : Sl.sub ⟨some ⟨b, o, none⟩, n, cap⟩ 1 0 h m = ⟨some ⟨b, o, none⟩, h, m⟩ := by
  unfold Sl.sub
  rw [if_neg hm]
  simp
theorem sub_ptr {s : Sl} {lo hi m : Nat} (h : s.ptr.isSome = true) : (s.sub 1 lo hi m).ptr.isSome = true := by
  unfold Sl.sub
  simp only
  split <;> simp [h]
theorem Off.ne {b : Nat} {l : List Nat} (h : Off b l) : b ∉ l := h
end Go.Vc
