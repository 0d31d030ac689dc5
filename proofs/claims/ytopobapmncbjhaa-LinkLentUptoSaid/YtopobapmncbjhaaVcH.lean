import Derived.Test.YtopobapmncbjhaaVcG
namespace Go.Vc
open Go.RowKit (Below)
set_option linter.unusedSimpArgs false
set_option linter.unusedVariables false
set_option autoImplicit false

theorem Upd.refl (w : World) : Upd [] [] w w := ⟨rfl, rfl, rfl, Nat.le_refl _, fun _ _ _ => rfl, by simp⟩
theorem Upd.trans {m m' n n' : List Nat} {w w1 w2 : World} (h : Upd m n w w1) (k : Upd m' n' w1 w2) : Upd (m ++ m') (n ++ n') w w2 where
  os := k.os.trans h.os
  tape := k.tape.trans h.tape
  output := k.output.trans h.output
  size := Nat.le_trans h.size k.size
  keep := fun i hi hm => by
    simp only [List.mem_append, not_or] at hm
    rw [k.keep i (Nat.lt_of_lt_of_le hi h.size) hm.2, h.keep i hi hm.1]
  news := fun b hb => by
    have := h.size; have := k.size
    rcases List.mem_append.1 hb with hb | hb
    · have := h.news b hb; omega
    · have := k.news b hb; omega
theorem Upd.mono {m m' n n' : List Nat} {w w1 : World} (h : Upd m n w w1) (hm : ∀ x ∈ m, x ∈ m') (hn : ∀ x ∈ n', x ∈ n) : Upd m' n' w w1 :=
  ⟨h.os, h.tape, h.output, h.size, fun k hk hk' => h.keep k hk (fun e => hk' (hm k e)), fun b hb => h.news b (hn b hb)⟩
theorem Upd.drew {m n : List Nat} {w w1 : World} (h : Upd m n w w1) : Upd m n w { w1 with drawn := w1.drawn + 1 } := ⟨h.os, h.tape, h.output, h.size, h.keep, h.news⟩
/-- a cell that was there -/
theorem Upd.cell {m n : List Nat} {w w1 : World} (h : Upd m n w w1) {a : Addr} {v : Value} (hc : w.cell? a = some v) (hm : a.block ∉ m) : w1.cell? a = some v := by
  have hlt : a.block < w.heap.size := World.block_lt_of_cell? w a hc
  rw [World.cell?_of_block (h.keep a.block hlt hm)]
  exact hc

structure Rel (X : Tab) (N : Nat) (s : St) (w : World) (a : Act) (wa : World) : Prop where
  defers : a.defers = X.D
  size : a.tmps.size = N
  env : ∀ t v, s.env t = some v → RelV X s (a.tmps.getD t undef) v
  bx : ∀ i b t c, s.bx i = some (.box b t c) → i < s.nb ∧ wa.heap[b]? = some (.cells c.cells.toArray t (0, 0)) ∧ c.shape (X.T t) = true
  sep : ∀ i j b t c b' t' c', s.bx i = some (.box b t c) → s.bx j = some (.box b' t' c') → i ≠ j → b ≠ b'
  lp : ∀ t id off p, s.env t = some (.lptr id off p) → id < s.nb
  nb0 : s.nb0 ≤ s.nb
  newIn : ∀ i b t c, s.bx i = some (.box b t c) → s.nb0 ≤ i → b ∈ s.news
  modIn : ∀ i b t c, s.bx i = some (.box b t c) → i ∈ s.ids → b ∈ s.mods
  idlt : ∀ i ∈ s.ids, i < s.nb
  upd : Upd s.mods s.news w wa
  cln : s.dirty = false → wa = w

theorem relv_of_bx {X : Tab} {s s' : St} (h : s'.bx = s.bx) {v : Value} {x : SV} (hv : RelV X s v x) : RelV X s' v x := by
  cases x <;> simp only [RelV] at hv ⊢ <;> first | exact hv | (rw [h]; exact hv)

theorem Rel.ev {X : Tab} {N : Nat} {s : St} {w : World} {a : Act} {wa : World} (h : Rel X N s w a wa) : ∀ x v, s.ev x = some v → RelV X s (a.eval x) v := by
  intro x v hx
  cases x with
  | tmp t => exact h.env t v hx
  | const u =>
    simp only [St.ev] at hx
    unfold constSV at hx
    split at hx <;> first
      | (simp at hx; subst hx; simp [RelV, SV.enc, Act.eval]; done)
      | (split at hx <;> (try (simp at hx; done)); rename_i hc; simp at hx hc; subst hx; obtain ⟨rfl, rfl⟩ := hc; simp [RelV, SV.enc, Act.eval, Sl.val]; done)
      | (simp at hx; done)
  | global g => simp [St.ev] at hx; subst hx; simp [RelV, SV.enc, Act.eval]
  | func f => simp [St.ev] at hx; subst hx; simp [RelV, SV.enc, Act.eval, SV.encL]

/-- the same state, nothing pending -/
theorem Rel.clean {X : Tab} {N : Nat} {s : St} {w : World} {a : Act} {wa : World} (h : Rel X N s w a wa) : Rel X N s.clean wa a wa where
  defers := h.defers
  size := h.size
  env := fun t v hv => relv_of_bx (s := s) rfl (h.env t v hv)
  bx := h.bx
  sep := h.sep
  lp := h.lp
  nb0 := Nat.le_refl _
  newIn := fun i b t c hb hn => by have := (h.bx i b t c hb).1; simp [St.clean] at hn; omega
  modIn := fun i b t c hb hn => by simp [St.clean] at hn
  idlt := by simp [St.clean]
  upd := Upd.refl wa
  cln := fun _ => rfl

theorem flush_sound {X : Tab} {N : Nat} {s : St} {w : World} {a : Act} {wa : World} {F : St → World → Prop} (h : s.flush w F) (hr : Rel X N s w a wa) : F s.clean wa := by
  unfold St.flush at h
  cases hd : s.dirty with
  | false => rw [hd] at h; rw [hr.cln hd]; exact h
  | true => rw [hd] at h; exact h wa hr.upd

theorem look_sound {X : Tab} {N : Nat} {s : St} {w : World} {a : Act} {wa : World} {F : St → World → Prop} (h : s.look w F) (hr : Rel X N s w a wa) :
    ∃ s' w', F s' w' ∧ Rel X N s' w' a wa ∧ Upd [] [] w' wa ∧ s'.env = s.env ∧ s'.bx = s.bx ∧ s'.nb = s.nb ∧ s'.mods = [] := by
  unfold St.look at h
  cases hm : s.mods with
  | nil =>
    rw [hm] at h
    refine ⟨s, w, h, hr, ?_, rfl, rfl, rfl, hm⟩
    have := hr.upd
    rw [hm] at this
    exact this.mono (by simp) (by simp)
  | cons x r =>
    rw [hm] at h
    exact ⟨s.clean, wa, flush_sound h hr, hr.clean, Upd.refl _, rfl, rfl, rfl, rfl⟩

/-- a new box -/
theorem Rel.newBox {X : Tab} {N : Nat} {s : St} {w : World} {a : Act} {wa : World} (h : Rel X N s w a wa) (t : Nat) (c : SV) (hc : c.shape (X.T t) = true) :
    Rel X N (s.newBox wa.heap.size t c) w a (wa.alloc (.cells c.cells.toArray t)) where
  defers := h.defers
  size := h.size
  env := fun u v hv => by
    have hv' : s.env u = some v := hv
    have := h.env u v hv'
    cases v <;> simp only [RelV] at this ⊢ <;> try exact this
    rename_i id off p
    intro b t' c' hb
    have hid := h.lp u id off p hv'
    have hne : Nat.beq id s.nb = false := nbeq_false.2 (by omega)
    simp only [St.newBox, St.putB, hne] at hb
    exact this b t' c' hb
  bx := fun i b t' c' hb => by
    simp only [St.newBox, St.putB] at hb
    split at hb
    · rename_i hi
      have := nbeq.1 hi
      subst this
      simp at hb
      obtain ⟨rfl, rfl, rfl⟩ := hb
      exact ⟨by simp [St.newBox], by simpa using heap_alloc_new wa _, hc⟩
    · obtain ⟨h1, h2, h3⟩ := h.bx i b t' c' hb
      have hlt : b < wa.heap.size := (Array.getElem?_eq_some_iff.1 h2).1
      exact ⟨by simp [St.newBox]; omega, by rw [Below.heap_alloc wa _ b hlt]; exact h2, h3⟩
  sep := fun i j b t1 c1 b' t2 c2 hi hj hne => by
    simp only [St.newBox, St.putB] at hi hj
    split at hi <;> split at hj
    · rename_i _ e1 _ e2; exact absurd ((nbeq.1 e1).trans (nbeq.1 e2).symm) hne
    · simp at hi
      obtain ⟨rfl, rfl, rfl⟩ := hi
      have := (Array.getElem?_eq_some_iff.1 (h.bx j b' t2 c2 hj).2.1).1
      omega
    · simp at hj
      obtain ⟨rfl, rfl, rfl⟩ := hj
      have := (Array.getElem?_eq_some_iff.1 (h.bx i b t1 c1 hi).2.1).1
      omega
    · exact h.sep i j b t1 c1 b' t2 c2 hi hj hne
  lp := fun u id off p hv => by have := h.lp u id off p hv; simp [St.newBox]; omega
  nb0 := by have := h.nb0; simp [St.newBox, St.putB]; omega
  newIn := fun i b t' c' hb hn => by
    simp only [St.newBox, St.putB] at hb hn ⊢
    split at hb
    · simp at hb; simp [hb.1]
    · exact List.mem_cons_of_mem _ (h.newIn i b t' c' hb hn)
  modIn := fun i b t' c' hb hn => by
    simp only [St.newBox, St.putB] at hb hn ⊢
    split at hb
    · rename_i hi
      have := nbeq.1 hi
      have := h.idlt i hn
      omega
    · exact h.modIn i b t' c' hb hn
  idlt := fun i hi => by have := h.idlt i hi; simp [St.newBox]; omega
  upd := by
    have hu := h.upd
    have hsz := hu.size
    refine ⟨hu.os, hu.tape, hu.output, by simp; omega, ?_, ?_⟩
    · intro k hk hm
      rw [Below.heap_alloc wa _ k (by omega)]
      exact hu.keep k hk hm
    · intro b hb
      rcases List.mem_cons.1 hb with rfl | hb
      · simp; omega
      · have := hu.news b hb
        simp; omega
  cln := fun hd => by simp [St.newBox] at hd
end Go.Vc
