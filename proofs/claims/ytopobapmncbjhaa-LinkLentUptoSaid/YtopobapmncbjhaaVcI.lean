import Derived.Test.YtopobapmncbjhaaVcH
namespace Go.Vc
open Go.RowKit (Below)
set_option linter.unusedSimpArgs false
set_option linter.unusedVariables false
set_option autoImplicit false

theorem getD_set (ts : Array Value) (t u : Nat) (v d : Value) (h : t < ts.size) : (ts.setIfInBounds t v).getD u d = if t = u then v else ts.getD u d := by
  simp only [Array.getD_eq_getD_getElem?, Array.getElem?_setIfInBounds, h, if_true]
  split <;> rfl

section
variable {X : Tab} {N : Nat} {s : St} {w : World} {a : Act} {wa : World}

/-- a temporary gets a value -/
theorem Rel.put (h : Rel X N s w a wa) {t : Nat} {x : SV} {v : Value} (ht : t < N) (hv : RelV X s v x) (hl : ∀ id off p, x = .lptr id off p → id < s.nb) :
    Rel X N (s.put t (some x)) w (a.put (some t) v) wa where
  defers := h.defers
  size := by simp [Act.put, h.size]
  env := fun u y hy => by
    apply relv_of_bx (s := s) rfl
    simp only [Act.put]
    rw [getD_set _ _ _ _ _ (by rw [h.size]; exact ht)]
    simp only [St.put] at hy
    split at hy
    · rename_i e
      obtain rfl := nbeq.1 e
      simp at hy; subst hy
      simpa using hv
    · rename_i e
      rw [if_neg (fun e' => nbeq_false.1 e e'.symm)]
      exact h.env u y hy
  bx := h.bx
  sep := h.sep
  lp := fun u id off p hu => by
    simp only [St.put] at hu
    split at hu
    · simp at hu; exact hl id off p hu
    · exact h.lp u id off p hu
  nb0 := h.nb0
  newIn := h.newIn
  modIn := h.modIn
  idlt := h.idlt
  upd := h.upd
  cln := h.cln

theorem Rel.putD (h : Rel X N s w a wa) {d : Option Nat} {x : SV} {v : Value} (ht : ∀ t, d = some t → t < N) (hv : RelV X s v x) (hl : ∀ id off p, x = .lptr id off p → id < s.nb) :
    Rel X N (s.putD d x) w (a.put d v) wa := by
  cases d with
  | none => exact h
  | some t => exact h.put (ht t rfl) hv hl

theorem putD_bx (d : Option Nat) (x : SV) : (s.putD d x).bx = s.bx := by cases d <;> rfl
theorem putD_nb (d : Option Nat) (x : SV) : (s.putD d x).nb = s.nb := by cases d <;> rfl

/-- what is known of a temporary is forgotten, whatever it gets -/
theorem Rel.drop (h : Rel X N s w a wa) (d : Option Nat) : Rel X N (s.drop d) w (a.put d undef) wa := by
  cases d with
  | none => exact h
  | some t =>
    exact {
      defers := h.defers
      size := by simp [Act.put, h.size]
      env := fun u y hy => by
        apply relv_of_bx (s := s) rfl
        simp only [St.drop, St.put] at hy
        split at hy
        · rename_i e
          obtain rfl := nbeq.1 e
          obtain rfl : SV.tuple [] = y := by simpa using hy
          simp only [RelV, SV.enc, SV.encL, Act.put, Array.getD_eq_getD_getElem?, Array.getElem?_setIfInBounds]
          split
          · split <;> rfl
          · rename_i hne; exact absurd trivial hne
        · rename_i e
          have hne : t ≠ u := fun e' => nbeq_false.1 e e'.symm
          simp only [Act.put]
          rw [show (a.tmps.setIfInBounds t undef).getD u undef = a.tmps.getD u undef by
            simp only [Array.getD_eq_getD_getElem?, Array.getElem?_setIfInBounds, if_neg hne]]
          exact h.env u y hy
      bx := h.bx
      sep := h.sep
      lp := fun u id off p hu => by
        simp only [St.drop, St.put] at hu
        split at hu
        · cases hu
        · exact h.lp u id off p hu
      nb0 := h.nb0
      newIn := h.newIn
      modIn := h.modIn
      idlt := h.idlt
      upd := h.upd
      cln := h.cln }

/-- a bool that is known by now -/
theorem Rel.known (h : Rel X N s w a wa) {t : Nat} {c : Bool} (ht : s.env t = some (.bool c)) : Rel X N (s.put t (some (.bool c))) w a wa where
  defers := h.defers
  size := h.size
  env := fun u y hy => by
    apply relv_of_bx (s := s) rfl
    simp only [St.put] at hy
    split at hy
    · rename_i e
      obtain rfl := nbeq.1 e
      exact h.env u y (by rw [← hy]; exact ht)
    · exact h.env u y hy
  bx := h.bx
  sep := h.sep
  lp := fun u id off p hu => by
    simp only [St.put] at hu
    split at hu
    · cases hu
    · exact h.lp u id off p hu
  nb0 := h.nb0
  newIn := h.newIn
  modIn := h.modIn
  idlt := h.idlt
  upd := h.upd
  cln := h.cln

/-- another world, the boxes as they were -/
theorem Rel.world (h : Rel X N s.clean wa a wa) {w2 : World} (hk : ∀ i b t c, s.bx i = some (.box b t c) → w2.heap[b]? = wa.heap[b]?) : Rel X N s.clean w2 a w2 where
  defers := h.defers
  size := h.size
  env := h.env
  bx := fun i b t c hb => by
    obtain ⟨h1, h2, h3⟩ := h.bx i b t c hb
    exact ⟨h1, by rw [hk i b t c hb]; exact h2, h3⟩
  sep := h.sep
  lp := h.lp
  nb0 := h.nb0
  newIn := h.newIn
  modIn := h.modIn
  idlt := h.idlt
  upd := Upd.refl w2
  cln := fun _ => rfl

/-- the count of draws has moved on -/
theorem Rel.drew (h : Rel X N s w a wa) : Rel X N { s with dirty := true } w a { wa with drawn := wa.drawn + 1 } where
  defers := h.defers
  size := h.size
  env := fun u v hv => relv_of_bx (s := s) rfl (h.env u v hv)
  bx := h.bx
  sep := h.sep
  lp := h.lp
  nb0 := h.nb0
  newIn := h.newIn
  modIn := h.modIn
  idlt := h.idlt
  upd := h.upd.drew
  cln := fun hd => by cases hd

/-- a new row of cells -/
theorem newRow_sound {cells : List Value} {e : Nat} {F : St → Nat → World → Prop} (h : s.newRow w cells e F) (hr : Rel X N s w a wa) :
    F s.clean wa.heap.size (wa.alloc (.cells cells.toArray e)) ∧ Rel X N s.clean (wa.alloc (.cells cells.toArray e)) a (wa.alloc (.cells cells.toArray e)) := by
  have hu := hr.upd
  have hsz := hu.size
  refine ⟨h _ _ ⟨hu.os, hu.tape, hu.output, by simp; omega, fun k hk hm => ?_, fun b hb => ?_⟩ (heap_alloc_new wa _), ?_⟩
  · rw [Below.heap_alloc wa _ k (by omega)]; exact hu.keep k hk hm
  · rcases List.mem_cons.1 hb with rfl | hb
    · simp; omega
    · have := hu.news b hb; simp; omega
  · exact hr.clean.world (fun i b t c hb => Below.heap_alloc wa _ b (Array.getElem?_eq_some_iff.1 (hr.bx i b t c hb).2.1).1)

/-- what is behind a pointer into a local struct -/
theorem freed {id b t : Nat} {c : SV} (h : Rel X N s.clean wa a wa) (hb : s.bx id = some (.box b t c)) : Rel X N (s.free id b).clean wa a wa where
  defers := h.defers
  size := h.size
  env := fun u v hv => by
    simp only [St.free, St.clean] at hv
    have key : ∀ x, s.env u = some x → (∀ i off p, x = .lptr i off p → i ≠ id) → RelV X (s.free id b).clean (a.tmps.getD u undef) x := by
      intro x hx hne
      have := h.env u x hx
      cases x <;> simp only [RelV] at this ⊢ <;> try exact this
      rename_i i off p
      intro b' t' c' hb'
      have hi : Nat.beq i id = false := nbeq_false.2 (hne i off p rfl)
      simp only [St.free, St.clean, St.putB, hi] at hb'
      exact this b' t' c' hb'
    cases hx : s.env u with
    | none => rw [hx] at hv; cases hv
    | some x =>
      rw [hx] at hv
      cases x with
      | lptr i off p =>
        simp only at hv
        split at hv
        · rename_i e
          obtain rfl := nbeq.1 e
          simp at hv; subst hv
          have := (h.env u _ hx) b t c hb
          simp [RelV, SV.enc, this.1]
        · rename_i e
          simp at hv; subst hv
          exact key _ hx (fun i' off' p' e' => by cases e'; exact nbeq_false.1 e)
      | _ => simp at hv; subst hv; exact key _ hx (fun _ _ _ e => by cases e)
  bx := fun i b' t' c' hb' => by
    simp only [St.free, St.clean, St.putB] at hb'
    split at hb'
    · cases hb'
    · exact h.bx i b' t' c' hb'
  sep := fun i j b1 t1 c1 b2 t2 c2 hi hj => by
    simp only [St.free, St.clean, St.putB] at hi hj
    split at hi
    · cases hi
    · split at hj
      · cases hj
      · exact h.sep i j b1 t1 c1 b2 t2 c2 hi hj
  lp := fun u i off p hu => by
    simp only [St.free, St.clean] at hu
    cases hx : s.env u with
    | none => rw [hx] at hu; cases hu
    | some x =>
      rw [hx] at hu
      cases x <;> simp only at hu <;> try (cases hu; done)
      split at hu
      · cases hu
      · simp at hu
        obtain ⟨rfl, rfl, rfl⟩ := hu
        exact h.lp u _ _ _ hx
  nb0 := Nat.le_refl _
  newIn := fun i b' t' c' hb' hn => by
    simp only [St.free, St.clean, St.putB] at hb' hn
    split at hb'
    · cases hb'
    · have := (h.bx i b' t' c' hb').1
      simp [St.clean] at this
      omega
  modIn := fun i b' t' c' hb' hn => by simp [St.clean] at hn
  idlt := by simp [St.clean]
  upd := Upd.refl wa
  cln := fun _ => rfl

theorem escs_sound {w : World} {a : Act} : ∀ {ids : List Nat} {s : St} {F : St → Prop}, escs s w ids F → Rel X N s.clean w a w → s.clean = s → ∃ s', F s' ∧ Rel X N s' w a w ∧ s'.clean = s' ∧ s'.nb = s.nb
  | [], s, F, h, hr, hc => ⟨s, h, hc ▸ hr, hc, rfl⟩
  | id :: r, s, F, h, hr, hc => by
    simp only [escs] at h
    split at h
    · rename_i b t c hb
      have hcell := (hr.bx id b t c hb).2.1
      obtain ⟨s', h1, h2, h3, h4⟩ := escs_sound (h hcell) (freed hr hb) (by
        have : (s.free id b).clean = s.clean.free id b := rfl
        rw [this, hc])
      exact ⟨s', h1, h2, h3, h4⟩
    · exact escs_sound h hr hc

theorem esc_sound {xs : List SV} {F : St → World → Prop} (h : s.esc w xs F) (hr : Rel X N s w a wa) :
    ∃ s' w', F s' w' ∧ Rel X N s' w' a wa ∧ s'.nb = s.nb ∧ (lptrs xs = [] → s' = s ∧ w' = w) ∧ (lptrs xs ≠ [] → s'.clean = s' ∧ w' = wa) := by
  unfold St.esc at h
  cases hl : lptrs xs with
  | nil => rw [hl] at h; exact ⟨s, w, h, hr, rfl, fun _ => ⟨rfl, rfl⟩, fun e => absurd rfl e⟩
  | cons x r =>
    rw [hl] at h
    have := flush_sound h hr
    obtain ⟨s', h1, h2, h3, h4⟩ := escs_sound this hr.clean rfl
    exact ⟨s', wa, h1, h2, h4, ⟨fun e => (by cases e), fun _ => ⟨h3, rfl⟩⟩⟩

/-- a store into a local struct -/
theorem Rel.setBox (h : Rel X N s w a wa) {id b t : Nat} {c c' : SV} (hb : s.bx id = some (.box b t c)) (hc : c'.shape (X.T t) = true) {w2 : World}
    (h2 : w2.heap[b]? = some (.cells c'.cells.toArray t (0, 0))) (hk : ∀ k, k ≠ b → w2.heap[k]? = wa.heap[k]?) (hs : w2.heap.size = wa.heap.size) (ho : w2.os = wa.os) (ht : w2.tape = wa.tape) (hout : w2.output = wa.output) :
    Rel X N ((s.putB id (some (.box b t c'))).touch id b) w a w2 := by
  have hid := (h.bx id b t c hb).1
  have hblt : b < wa.heap.size := (Array.getElem?_eq_some_iff.1 (h.bx id b t c hb).2.1).1
  have hupd : ∀ m', (∀ x ∈ s.mods, x ∈ m') → (b ∈ m' ∨ b ∈ s.news) → Upd m' s.news w w2 := by
    intro m' hm hbm
    have hu := h.upd
    refine ⟨ho.trans hu.os, ht.trans hu.tape, hout.trans hu.output, by rw [hs]; exact hu.size, fun k hk' hkm => ?_, fun x hx => by rw [hs]; exact hu.news x hx⟩
    have hne : k ≠ b := by
      rintro rfl
      rcases hbm with e | e
      · exact hkm e
      · have := hu.news k e; omega
    rw [hk k hne]
    exact hu.keep k hk' (fun e => hkm (hm k e))
  have hbx : ∀ i b' t' c'', (s.putB id (some (.box b t c'))).bx i = some (.box b' t' c'') → (i = id ∧ b' = b ∧ t' = t ∧ c'' = c') ∨ (i ≠ id ∧ s.bx i = some (.box b' t' c'')) := by
    intro i b' t' c'' hi
    simp only [St.putB] at hi
    split at hi
    · rename_i e
      obtain rfl := nbeq.1 e
      simp at hi
      obtain ⟨rfl, rfl, rfl⟩ := hi
      exact .inl ⟨rfl, rfl, rfl, rfl⟩
    · rename_i e
      exact .inr ⟨nbeq_false.1 e, hi⟩
  have henv : ∀ u v, s.env u = some v → RelV X (s.putB id (some (.box b t c'))) (a.tmps.getD u undef) v := by
    intro u v hv
    have := h.env u v hv
    cases v <;> simp only [RelV] at this ⊢ <;> try exact this
    rename_i i off p
    intro b' t' c'' hi
    rcases hbx i b' t' c'' hi with ⟨rfl, rfl, rfl, rfl⟩ | ⟨_, hi'⟩
    · exact this b' t' c hb
    · exact this b' t' c'' hi'
  have hbxs : ∀ i b' t' c'', (s.putB id (some (.box b t c'))).bx i = some (.box b' t' c'') → i < s.nb ∧ w2.heap[b']? = some (.cells c''.cells.toArray t' (0, 0)) ∧ c''.shape (X.T t') = true := by
    intro i b' t' c'' hi
    rcases hbx i b' t' c'' hi with ⟨rfl, rfl, rfl, rfl⟩ | ⟨hne, hi'⟩
    · exact ⟨hid, h2, hc⟩
    · obtain ⟨g1, g2, g3⟩ := h.bx i b' t' c'' hi'
      exact ⟨g1, by rw [hk b' (fun e => h.sep i id b' t' c'' b t c hi' hb hne e)]; exact g2, g3⟩
  have hsep : ∀ i j b1 t1 c1 b2 t2 c2, (s.putB id (some (.box b t c'))).bx i = some (.box b1 t1 c1) → (s.putB id (some (.box b t c'))).bx j = some (.box b2 t2 c2) → i ≠ j → b1 ≠ b2 := by
    intro i j b1 t1 c1 b2 t2 c2 hi hj hne
    rcases hbx i b1 t1 c1 hi with ⟨rfl, rfl, rfl, rfl⟩ | ⟨_, hi'⟩ <;> rcases hbx j b2 t2 c2 hj with ⟨rfl, rfl, rfl, rfl⟩ | ⟨_, hj'⟩
    · exact absurd rfl hne
    · exact h.sep _ _ _ _ _ _ _ _ hb hj' hne
    · exact h.sep _ _ _ _ _ _ _ _ hi' hb hne
    · exact h.sep _ _ _ _ _ _ _ _ hi' hj' hne
  unfold St.touch
  split
  · rename_i hcond
    have hin : b ∈ s.mods ∨ b ∈ s.news := by
      simp only [Bool.or_eq_true] at hcond
      rcases hcond with e | e
      · exact .inr (h.newIn id b t c hb (Nat.le_of_ble_eq_true e))
      · exact .inl (h.modIn id b t c hb (hasN_iff.1 e))
    exact {
      defers := h.defers, size := h.size, env := fun u v hv => relv_of_bx (s := s.putB id (some (.box b t c'))) rfl (henv u v hv), bx := hbxs, sep := hsep
      lp := h.lp, nb0 := h.nb0
      newIn := fun i b' t' c'' hi hn => by
        rcases hbx i b' t' c'' hi with ⟨rfl, rfl, rfl, rfl⟩ | ⟨_, hi'⟩
        · exact h.newIn _ _ _ _ hb hn
        · exact h.newIn _ _ _ _ hi' hn
      modIn := fun i b' t' c'' hi hn => by
        rcases hbx i b' t' c'' hi with ⟨rfl, rfl, rfl, rfl⟩ | ⟨_, hi'⟩
        · exact h.modIn _ _ _ _ hb hn
        · exact h.modIn _ _ _ _ hi' hn
      idlt := h.idlt
      upd := hupd s.mods (fun _ h => h) hin
      cln := fun hd => by cases hd }
  · exact {
      defers := h.defers, size := h.size, env := fun u v hv => relv_of_bx (s := s.putB id (some (.box b t c'))) rfl (henv u v hv), bx := hbxs, sep := hsep
      lp := h.lp, nb0 := h.nb0
      newIn := fun i b' t' c'' hi hn => by
        rcases hbx i b' t' c'' hi with ⟨rfl, rfl, rfl, rfl⟩ | ⟨_, hi'⟩
        · exact h.newIn _ _ _ _ hb hn
        · exact h.newIn _ _ _ _ hi' hn
      modIn := fun i b' t' c'' hi hn => by
        rcases hbx i b' t' c'' hi with ⟨rfl, rfl, rfl, rfl⟩ | ⟨hne, hi'⟩
        · simp
        · rcases List.mem_cons.1 hn with e | hn
          · exact absurd e hne
          · exact List.mem_cons_of_mem _ (h.modIn _ _ _ _ hi' hn)
      idlt := fun i hi => by
        rcases List.mem_cons.1 hi with rfl | hi
        · exact hid
        · exact h.idlt i hi
      upd := hupd (b :: s.mods) (fun x hx => List.mem_cons_of_mem _ hx) (.inl (by simp))
      cln := fun hd => by cases hd }
end
end Go.Vc
