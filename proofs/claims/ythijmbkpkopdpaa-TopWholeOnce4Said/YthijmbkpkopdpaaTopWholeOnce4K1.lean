import Derived.Test.YthijmbkpkopdpaaTopWholeOnce4K0
import Derived.Maps.Keyed
import Derived.Laws.IdiomRangeMap
section
namespace Go.Vc
open Go.RowKit (Below)
set_option linter.unusedSimpArgs false
set_option linter.unusedVariables false
set_option autoImplicit false

theorem getD_set (ts : Array Value) (t u : Nat) (v d : Value) (h : t < ts.size) : (ts.setIfInBounds t v).getD u d = if t = u then v else ts.getD u d := by
  simp only [Array.getD_eq_getD_getElem?, Array.getElem?_setIfInBounds, h, if_true]
  split <;> rfl

section
variable {X : Tab} {N : Nat} {s : St} {w : World} {a : Act} {wa : World}

/-- a temporary gets a value -/
theorem Rel.put (h : Rel X N s w a wa) {t : Nat} {x : SV} {v : Value} (ht : t < N) (hv : RelV X s v x) (hl : ∀ id off p, x = .lptr id off p → id < s.nb) :
    Rel X N (s.put t (some x)) w (a.put (some t) v) wa where
  defers := h.defers
  size := by simp [Act.put, h.size]
  env := fun u y hy => by
    apply relv_of_bx (s := s) rfl
    simp only [Act.put]
    rw [getD_set _ _ _ _ _ (by rw [h.size]; exact ht)]
    simp only [St.put] at hy
    split at hy
    · rename_i e
      obtain rfl := nbeq.1 e
      simp at hy; subst hy
      simpa using hv
    · rename_i e
      rw [if_neg (fun e' => nbeq_false.1 e e'.symm)]
      exact h.env u y hy
  bx := h.bx
  sep := h.sep
  lp := fun u id off p hu => by
    simp only [St.put] at hu
    split at hu
    · simp at hu; exact hl id off p hu
    · exact h.lp u id off p hu
  nb0 := h.nb0
  newIn := h.newIn
  modIn := h.modIn
  idlt := h.idlt
  upd := h.upd
  cln := h.cln

theorem Rel.putD (h : Rel X N s w a wa) {d : Option Nat} {x : SV} {v : Value} (ht : ∀ t, d = some t → t < N) (hv : RelV X s v x) (hl : ∀ id off p, x = .lptr id off p → id < s.nb) :
    Rel X N (s.putD d x) w (a.put d v) wa := by
  cases d with
  | none => exact h
  | some t => exact h.put (ht t rfl) hv hl

theorem putD_bx (d : Option Nat) (x : SV) : (s.putD d x).bx = s.bx := by cases d <;> rfl
theorem putD_nb (d : Option Nat) (x : SV) : (s.putD d x).nb = s.nb := by cases d <;> rfl

/-- what is known of a temporary is forgotten, whatever it gets -/
theorem Rel.drop (h : Rel X N s w a wa) (d : Option Nat) : Rel X N (s.drop d) w (a.put d undef) wa := by
  cases d with
  | none => exact h
  | some t =>
    exact {
      defers := h.defers
      size := by simp [Act.put, h.size]
      env := fun u y hy => by
        apply relv_of_bx (s := s) rfl
        simp only [St.drop, St.put] at hy
        split at hy
        · rename_i e
          obtain rfl := nbeq.1 e
          obtain rfl : SV.tuple [] = y := by simpa using hy
          simp only [RelV, SV.enc, SV.encL, Act.put, Array.getD_eq_getD_getElem?, Array.getElem?_setIfInBounds]
          split
          · split <;> rfl
          · rename_i hne; exact absurd trivial hne
        · rename_i e
          have hne : t ≠ u := fun e' => nbeq_false.1 e e'.symm
          simp only [Act.put]
          rw [show (a.tmps.setIfInBounds t undef).getD u undef = a.tmps.getD u undef by
            simp only [Array.getD_eq_getD_getElem?, Array.getElem?_setIfInBounds, if_neg hne]]
          exact h.env u y hy
      bx := h.bx
      sep := h.sep
      lp := fun u id off p hu => by
        simp only [St.drop, St.put] at hu
        split at hu
        · cases hu
        · exact h.lp u id off p hu
      nb0 := h.nb0
      newIn := h.newIn
      modIn := h.modIn
      idlt := h.idlt
      upd := h.upd
      cln := h.cln }

/-- a bool that is known by now -/
theorem Rel.known (h : Rel X N s w a wa) {t : Nat} {c : Bool} (ht : s.env t = some (.bool c)) : Rel X N (s.put t (some (.bool c))) w a wa where
  defers := h.defers
  size := h.size
  env := fun u y hy => by
    apply relv_of_bx (s := s) rfl
    simp only [St.put] at hy
    split at hy
    · rename_i e
      obtain rfl := nbeq.1 e
      exact h.env u y (by rw [← hy]; exact ht)
    · exact h.env u y hy
  bx := h.bx
  sep := h.sep
  lp := fun u id off p hu => by
    simp only [St.put] at hu
    split at hu
    · cases hu
    · exact h.lp u id off p hu
  nb0 := h.nb0
  newIn := h.newIn
  modIn := h.modIn
  idlt := h.idlt
  upd := h.upd
  cln := h.cln

/-- another world, the boxes as they were -/
theorem Rel.world (h : Rel X N s.clean wa a wa) {w2 : World} (hk : ∀ i b t c, s.bx i = some (.box b t c) → w2.heap[b]? = wa.heap[b]?) : Rel X N s.clean w2 a w2 where
  defers := h.defers
  size := h.size
  env := h.env
  bx := fun i b t c hb => by
    obtain ⟨h1, h2, h3⟩ := h.bx i b t c hb
    exact ⟨h1, by rw [hk i b t c hb]; exact h2, h3⟩
  sep := h.sep
  lp := h.lp
  nb0 := h.nb0
  newIn := h.newIn
  modIn := h.modIn
  idlt := h.idlt
  upd := Upd.refl w2
  cln := fun _ => rfl

/-- the count of draws has moved on -/
theorem Rel.drew (h : Rel X N s w a wa) : Rel X N { s with dirty := true } w a { wa with drawn := wa.drawn + 1 } where
  defers := h.defers
  size := h.size
  env := fun u v hv => relv_of_bx (s := s) rfl (h.env u v hv)
  bx := h.bx
  sep := h.sep
  lp := h.lp
  nb0 := h.nb0
  newIn := h.newIn
  modIn := h.modIn
  idlt := h.idlt
  upd := h.upd.drew
  cln := fun hd => by cases hd

/-- a new row of cells -/
theorem off_then {b : Nat} {l : List Nat} {F : Prop} (h : offThen b l F) (hb : b ∉ l) : F := by
  cases l with
  | nil => exact h
  | cons x r => exact h hb
theorem newRow0_sound {cells : List Value} {e : Nat} {F : St → Nat → World → Prop} (h : s.newRow0 w cells e F) (hr : Rel X N s w a wa) :
    F s.clean wa.heap.size (wa.alloc (.cells cells.toArray e)) ∧ Rel X N s.clean (wa.alloc (.cells cells.toArray e)) a (wa.alloc (.cells cells.toArray e)) := by
  have hu := hr.upd
  have hsz := hu.size
  refine ⟨(h _ _ ⟨hu.os, hu.tape, hu.output, by simp; omega, fun k hk hm => ?_, fun b hb => ?_⟩ (heap_alloc_new wa _)), ?_⟩
  · rw [Below.heap_alloc wa _ k (by omega)]; exact hu.keep k hk hm
  · rcases List.mem_cons.1 hb with rfl | hb
    · simp; omega
    · have := hu.news b hb; simp; omega
  · exact hr.clean.world (fun i b t c hb => Below.heap_alloc wa _ b (Array.getElem?_eq_some_iff.1 (hr.bx i b t c hb).2.1).1)

theorem newRow_sound {cells : List Value} {e : Nat} {F : St → Nat → World → Prop} (h : s.newRow w cells e F) (hr : Rel X N s w a wa) :
    F s.clean wa.heap.size (wa.alloc (.cells cells.toArray e)) ∧ Rel X N s.clean (wa.alloc (.cells cells.toArray e)) a (wa.alloc (.cells cells.toArray e)) := by
  unfold St.newRow at h
  split at h
  · exact newRow0_sound h hr
  · exact newRow0_sound (s := s.clean) (flush_sound h hr) hr.clean

/-- what is behind a pointer into a local struct -/
theorem freed {id b t : Nat} {c : SV} (h : Rel X N s.clean wa a wa) (hb : s.bx id = some (.box b t c)) : Rel X N (s.free id b).clean wa a wa where
  defers := h.defers
  size := h.size
  env := fun u v hv => by
    simp only [St.free, St.clean] at hv
    have key : ∀ x, s.env u = some x → (∀ i off p, x = .lptr i off p → i ≠ id) → RelV X (s.free id b).clean (a.tmps.getD u undef) x := by
      intro x hx hne
      have := h.env u x hx
      cases x <;> simp only [RelV] at this ⊢ <;> try exact this
      rename_i i off p
      intro b' t' c' hb'
      have hi : Nat.beq i id = false := nbeq_false.2 (hne i off p rfl)
      simp only [St.free, St.clean, St.putB, hi] at hb'
      exact this b' t' c' hb'
    cases hx : s.env u with
    | none => rw [hx] at hv; cases hv
    | some x =>
      rw [hx] at hv
      cases x with
      | lptr i off p =>
        simp only at hv
        split at hv
        · rename_i e
          obtain rfl := nbeq.1 e
          simp at hv; subst hv
          have := (h.env u _ hx) b t c hb
          simp [RelV, SV.enc, this.1]
        · rename_i e
          simp at hv; subst hv
          exact key _ hx (fun i' off' p' e' => by cases e'; exact nbeq_false.1 e)
      | _ => simp at hv; subst hv; exact key _ hx (fun _ _ _ e => by cases e)
  bx := fun i b' t' c' hb' => by
    simp only [St.free, St.clean, St.putB] at hb'
    split at hb'
    · cases hb'
    · exact h.bx i b' t' c' hb'
  sep := fun i j b1 t1 c1 b2 t2 c2 hi hj => by
    simp only [St.free, St.clean, St.putB] at hi hj
    split at hi
    · cases hi
    · split at hj
      · cases hj
      · exact h.sep i j b1 t1 c1 b2 t2 c2 hi hj
  lp := fun u i off p hu => by
    simp only [St.free, St.clean] at hu
    cases hx : s.env u with
    | none => rw [hx] at hu; cases hu
    | some x =>
      rw [hx] at hu
      cases x <;> simp only at hu <;> try (cases hu; done)
      split at hu
      · cases hu
      · simp at hu
        obtain ⟨rfl, rfl, rfl⟩ := hu
        exact h.lp u _ _ _ hx
  nb0 := Nat.le_refl _
  newIn := fun i b' t' c' hb' hn => by
    simp only [St.free, St.clean, St.putB] at hb' hn
    split at hb'
    · cases hb'
    · have := (h.bx i b' t' c' hb').1
      simp [St.clean] at this
      omega
  modIn := fun i b' t' c' hb' hn => by simp [St.clean] at hn
  idlt := by simp [St.clean]
  upd := Upd.refl wa
  cln := fun _ => rfl

theorem box_of_live {s : St} {b : Nat} : ∀ {l : List Nat}, b ∈ s.liveFrom l → ∃ i t c, s.bx i = some (.box b t c)
  | [], h => by cases h
  | i :: l, h => by
    simp only [St.liveFrom] at h
    split at h
    · rename_i b' t c hb'
      rcases List.mem_cons.1 h with rfl | h
      · exact ⟨i, t, c, hb'⟩
      · exact box_of_live h
    · exact box_of_live h
theorem freed_off {w : World} {a : Act} {wa : World} {s : St} {id b t : Nat} {c : SV} (hr : Rel X N s.clean w a wa) (hb : s.bx id = some (.box b t c)) : b ∉ (s.free id b).live := by
  intro h
  obtain ⟨i, t', c', hi⟩ := box_of_live h
  simp only [St.free, St.putB] at hi
  split at hi
  · cases hi
  · rename_i hne
    exact hr.sep i id b t' c' b t c hi hb (nbeq_false.1 (by simpa using hne)) rfl
theorem escs_sound {w : World} {a : Act} : ∀ {ids : List Nat} {s : St} {F : St → Prop}, escs s w ids F → Rel X N s.clean w a w → s.clean = s → ∃ s', F s' ∧ Rel X N s' w a w ∧ s'.clean = s' ∧ s'.nb = s.nb
  | [], s, F, h, hr, hc => ⟨s, h, hc ▸ hr, hc, rfl⟩
  | id :: r, s, F, h, hr, hc => by
    simp only [escs] at h
    split at h
    · rename_i b t c hb
      have hcell := (hr.bx id b t c hb).2.1
      obtain ⟨s', h1, h2, h3, h4⟩ := escs_sound (off_then (h hcell) (freed_off hr hb)) (freed hr hb) (by
        have : (s.free id b).clean = s.clean.free id b := rfl
        rw [this, hc])
      exact ⟨s', h1, h2, h3, h4⟩
    · exact escs_sound h hr hc

theorem esc_sound {xs : List SV} {F : St → World → Prop} (h : s.esc w xs F) (hr : Rel X N s w a wa) :
    ∃ s' w', F s' w' ∧ Rel X N s' w' a wa ∧ s'.nb = s.nb ∧ (lptrs xs = [] → s' = s ∧ w' = w) ∧ (lptrs xs ≠ [] → s'.clean = s' ∧ w' = wa) := by
  unfold St.esc at h
  cases hl : lptrs xs with
  | nil => rw [hl] at h; exact ⟨s, w, h, hr, rfl, fun _ => ⟨rfl, rfl⟩, fun e => absurd rfl e⟩
  | cons x r =>
    rw [hl] at h
    have := flush_sound h hr
    obtain ⟨s', h1, h2, h3, h4⟩ := escs_sound this hr.clean rfl
    exact ⟨s', wa, h1, h2, h4, ⟨fun e => (by cases e), fun _ => ⟨h3, rfl⟩⟩⟩

/-- a store into a local struct -/
theorem Rel.setBox (h : Rel X N s w a wa) {id b t : Nat} {c c' : SV} (hb : s.bx id = some (.box b t c)) (hc : c'.shape (X.T t) = true) {w2 : World}
    (h2 : w2.heap[b]? = some (.cells c'.cells.toArray t (0, 0))) (hk : ∀ k, k ≠ b → w2.heap[k]? = wa.heap[k]?) (hs : w2.heap.size = wa.heap.size) (ho : w2.os = wa.os) (ht : w2.tape = wa.tape) (hout : w2.output = wa.output) :
    Rel X N ((s.putB id (some (.box b t c'))).touch id b) w a w2 := by
  have hid := (h.bx id b t c hb).1
  have hblt : b < wa.heap.size := (Array.getElem?_eq_some_iff.1 (h.bx id b t c hb).2.1).1
  have hupd : ∀ m', (∀ x ∈ s.mods, x ∈ m') → (b ∈ m' ∨ b ∈ s.news) → Upd m' s.news w w2 := by
    intro m' hm hbm
    have hu := h.upd
    refine ⟨ho.trans hu.os, ht.trans hu.tape, hout.trans hu.output, by rw [hs]; exact hu.size, fun k hk' hkm => ?_, fun x hx => by rw [hs]; exact hu.news x hx⟩
    have hne : k ≠ b := by
      rintro rfl
      rcases hbm with e | e
      · exact hkm e
      · have := hu.news k e; omega
    rw [hk k hne]
    exact hu.keep k hk' (fun e => hkm (hm k e))
  have hbx : ∀ i b' t' c'', (s.putB id (some (.box b t c'))).bx i = some (.box b' t' c'') → (i = id ∧ b' = b ∧ t' = t ∧ c'' = c') ∨ (i ≠ id ∧ s.bx i = some (.box b' t' c'')) := by
    intro i b' t' c'' hi
    simp only [St.putB] at hi
    split at hi
    · rename_i e
      obtain rfl := nbeq.1 e
      simp at hi
      obtain ⟨rfl, rfl, rfl⟩ := hi
      exact .inl ⟨rfl, rfl, rfl, rfl⟩
    · rename_i e
      exact .inr ⟨nbeq_false.1 e, hi⟩
  have henv : ∀ u v, s.env u = some v → RelV X (s.putB id (some (.box b t c'))) (a.tmps.getD u undef) v := by
    intro u v hv
    have := h.env u v hv
    cases v <;> simp only [RelV] at this ⊢ <;> try exact this
    rename_i i off p
    intro b' t' c'' hi
    rcases hbx i b' t' c'' hi with ⟨rfl, rfl, rfl, rfl⟩ | ⟨_, hi'⟩
    · exact this b' t' c hb
    · exact this b' t' c'' hi'
  have hbxs : ∀ i b' t' c'', (s.putB id (some (.box b t c'))).bx i = some (.box b' t' c'') → i < s.nb ∧ w2.heap[b']? = some (.cells c''.cells.toArray t' (0, 0)) ∧ c''.shape (X.T t') = true := by
    intro i b' t' c'' hi
    rcases hbx i b' t' c'' hi with ⟨rfl, rfl, rfl, rfl⟩ | ⟨hne, hi'⟩
    · exact ⟨hid, h2, hc⟩
    · obtain ⟨g1, g2, g3⟩ := h.bx i b' t' c'' hi'
      exact ⟨g1, by rw [hk b' (fun e => h.sep i id b' t' c'' b t c hi' hb hne e)]; exact g2, g3⟩
  have hsep : ∀ i j b1 t1 c1 b2 t2 c2, (s.putB id (some (.box b t c'))).bx i = some (.box b1 t1 c1) → (s.putB id (some (.box b t c'))).bx j = some (.box b2 t2 c2) → i ≠ j → b1 ≠ b2 := by
    intro i j b1 t1 c1 b2 t2 c2 hi hj hne
    rcases hbx i b1 t1 c1 hi with ⟨rfl, rfl, rfl, rfl⟩ | ⟨_, hi'⟩ <;> rcases hbx j b2 t2 c2 hj with ⟨rfl, rfl, rfl, rfl⟩ | ⟨_, hj'⟩
    · exact absurd rfl hne
    · exact h.sep _ _ _ _ _ _ _ _ hb hj' hne
    · exact h.sep _ _ _ _ _ _ _ _ hi' hb hne
    · exact h.sep _ _ _ _ _ _ _ _ hi' hj' hne
  unfold St.touch
  split
  · rename_i hcond
    have hin : b ∈ s.mods ∨ b ∈ s.news := by
      simp only [Bool.or_eq_true] at hcond
      rcases hcond with e | e
      · exact .inr (h.newIn id b t c hb (Nat.le_of_ble_eq_true e))
      · exact .inl (h.modIn id b t c hb (hasN_iff.1 e))
    exact {
      defers := h.defers, size := h.size, env := fun u v hv => relv_of_bx (s := s.putB id (some (.box b t c'))) rfl (henv u v hv), bx := hbxs, sep := hsep
      lp := h.lp, nb0 := h.nb0
      newIn := fun i b' t' c'' hi hn => by
        rcases hbx i b' t' c'' hi with ⟨rfl, rfl, rfl, rfl⟩ | ⟨_, hi'⟩
        · exact h.newIn _ _ _ _ hb hn
        · exact h.newIn _ _ _ _ hi' hn
      modIn := fun i b' t' c'' hi hn => by
        rcases hbx i b' t' c'' hi with ⟨rfl, rfl, rfl, rfl⟩ | ⟨_, hi'⟩
        · exact h.modIn _ _ _ _ hb hn
        · exact h.modIn _ _ _ _ hi' hn
      idlt := h.idlt
      upd := hupd s.mods (fun _ h => h) hin
      cln := fun hd => by cases hd }
  · exact {
      defers := h.defers, size := h.size, env := fun u v hv => relv_of_bx (s := s.putB id (some (.box b t c'))) rfl (henv u v hv), bx := hbxs, sep := hsep
      lp := h.lp, nb0 := h.nb0
      newIn := fun i b' t' c'' hi hn => by
        rcases hbx i b' t' c'' hi with ⟨rfl, rfl, rfl, rfl⟩ | ⟨_, hi'⟩
        · exact h.newIn _ _ _ _ hb hn
        · exact h.newIn _ _ _ _ hi' hn
      modIn := fun i b' t' c'' hi hn => by
        rcases hbx i b' t' c'' hi with ⟨rfl, rfl, rfl, rfl⟩ | ⟨hne, hi'⟩
        · simp
        · rcases List.mem_cons.1 hn with e | hn
          · exact absurd e hne
          · exact List.mem_cons_of_mem _ (h.modIn _ _ _ _ hi' hn)
      idlt := fun i hi => by
        rcases List.mem_cons.1 hi with rfl | hi
        · exact hid
        · exact h.idlt i hi
      upd := hupd (b :: s.mods) (fun x hx => List.mem_cons_of_mem _ hx) (.inl (by simp))
      cln := fun hd => by cases hd }
end
end Go.Vc
end

section
namespace Go.Vc
open Go.RowKit (Below)
set_option linter.unusedSimpArgs false
set_option linter.unusedVariables false
set_option autoImplicit false

def OpPost (X : Tab) (N : Nat) (K : St → World → Prop) (s : St) (o : Oper) (a : Act) : Act → World → Prop := fun a' wa' =>
  ∃ s' w', K s' w' ∧ Rel X N s' w' a' wa' ∧ s.nb ≤ s'.nb ∧ (lstore s o = false → escapes s o = false → ∀ i, i < s.nb → s'.bx i = s.bx i) ∧ ∃ v, a' = a.put o.dst v

theorem plain_lptrs : ∀ {l : List SV}, allPlain l = true → lptrs l = []
  | [], _ => rfl
  | x :: r, h => by
    simp only [allPlain, Bool.and_eq_true] at h
    cases x <;> simp [plain] at h <;> simp [lptrs, plain_lptrs h]

section
variable {X : Tab} (ok : TabOK X) {N : Nat} {s : St} {w : World} {a : Act} {wa : World} {o : Oper} {K : St → World → Prop} {Q : Exit → Act → World → Prop}

theorem lp_nb (hr : Rel X N s w a wa) {sv : SV} (h : LP s sv) : ∀ id off p, sv = .lptr id off p → id < s.nb := by
  intro id off p e
  obtain ⟨x, off', p', hx⟩ := h id off p e
  cases x with
  | tmp t => exact hr.lp t id off' p' hx
  | const v =>
    exfalso
    simp only [St.ev] at hx
    unfold constSV at hx
    split at hx <;> first | (simp at hx; done) | (split at hx <;> simp at hx)
  | global g => simp [St.ev] at hx
  | func f => simp [St.ev] at hx

/-- an operation that yields a value in the world as it stands -/
theorem value_wp (hr : Rel X N s w a wa) (hd : ∀ t, o.dst = some t → t < N) {v : Value} {sv : SV} (hv : RelV X s v sv) (hl : LP s sv) (hrun : (execOp a.eval o).run X.P wa = .ok (.value v) wa) (hK : K (s.putD o.dst sv) w) :
    o.wp X.P a wa (OpPost X N K s o a) Q := by
  unfold Oper.wp
  rw [hrun, Oper.upon_value]
  exact ⟨_, w, hK, hr.putD hd hv (lp_nb hr hl), by rw [putD_nb]; exact Nat.le_refl _, fun _ _ i _ => by rw [putD_bx], v, rfl⟩

include ok in
theorem pure_wp (hr : Rel X N s w a wa) (hd : ∀ t, o.dst = some t → t < N) (hnl : isLoad o = false) (h : pureVC X s o fun v => K (s.putD o.dst v) w) : o.wp X.P a wa (OpPost X N K s o a) Q := by
  obtain ⟨v, sv, h1, h2, h3, h4⟩ := pure_sound ok hr.ev hnl h
  exact value_wp hr hd h1 h3 (h4 wa) h2

/-- a load from a local struct -/
theorem box_load {id off : Nat} {p : List Nat} {t : Nat} {v : Value} {F : SV → Prop} (ok : TabOK X) (hb : ∀ b t c, s.bx id = some (.box b t c) → wa.heap[b]? = some (.cells c.cells.toArray t (0, 0)) ∧ c.shape (X.T t) = true)
    (hv : RelV X s v (.lptr id off p)) (hl : lIs X s id p t = true) (hD : isData (X.T t) = true) (h : match s.bx id with | some (.box _ _ c) => ifSome (getPath c p) F | _ => False) :
    ∃ x, x.shape (X.T t) = true ∧ F x ∧ (Instr.loadAt t v).run X.P wa = .ok x.enc wa := by
  obtain ⟨b, bt, c, h1, h2, h3⟩ := lIs_path hv hl
  obtain ⟨g1, g2⟩ := hb b bt c h1
  rw [h1] at h
  obtain ⟨x, h4, h5⟩ := ifSome_iff.1 h
  obtain ⟨y, h6, h7, pre, post, h8, h9, _⟩ := path_get g2 h3
  rw [h6] at h4
  obtain rfl : y = x := by simpa using h4
  refine ⟨y, h7, h5, ?_⟩
  subst h2
  have hcell : ∀ j u, y.cells[j]? = some u → wa.cell? ((⟨b, off, none⟩ : Addr).add j) = some u := by
    intro j u hu
    have hadd : (⟨b, off, none⟩ : Addr).add j = ⟨b, off + j, none⟩ := by unfold Addr.add; split <;> simp_all
    rw [hadd, cell_of_row wa b (off + j) _ bt (0, 0) g1, h8]
    have hj : j < y.cells.length := (List.getElem?_eq_some_iff.1 hu).1
    simp only [List.getElem?_toArray, List.append_assoc]
    rw [List.getElem?_append_right (by omega), List.getElem?_append_left (by omega)]
    rw [show off + j - pre.length = j by omega]
    exact hu
  simp only [Instr.loadAt, Instr.sureAddr, loadVar, Sem.run_bind, Sem.run_pure, Result.andThen_ok, isAgg_run ok t hD, sizeOf_run ok t hD]
  cases hag : isAggTy (X.T t) with
  | true =>
    have hlc := run_loadCells_list (P := X.P) wa ⟨b, off, none⟩ y.cells hcell
    rw [shape_size h7] at hlc
    simp only [if_true, Sem.run_bind, sizeOf_run ok t hD, Result.andThen_ok, hlc, Sem.run_pure]
    rw [enc_agg h7 hag]
  | false =>
    have hsc := enc_scalar h7 hag
    have := hcell 0 y.enc (by rw [hsc]; rfl)
    have h0 : (⟨b, off, none⟩ : Addr).add 0 = ⟨b, off, none⟩ := rfl
    rw [h0] at this
    simp [run_load, this]

/-- a load from memory -/
theorem loadVC_cells {a : Addr} {w : World} : ∀ {t : Ty} {off : Nat} {F : SV → Prop}, loadVC a w t off F → ∃ x, x.shape t = true ∧ F x ∧ ∀ j u, x.cells[j]? = some u → w.cell? (a.add (off + j)) = some u := by
  intro t
  induction t using Ty.rec (motive_2 := fun ts => ∀ {off : Nat} {F : List SV → Prop}, loadsVC a w ts off F → ∃ l, SV.shapes l ts = true ∧ F l ∧ ∀ j u, (SV.cellsL l)[j]? = some u → w.cell? (a.add (off + j)) = some u) with
  | int k =>
    intro off F h
    simp only [loadVC, ad_eq] at h
    obtain ⟨n, h1, h2⟩ := h
    refine ⟨.int k n, by simp [SV.shape, ksame_refl], h2, fun j u hu => ?_⟩
    cases j <;> simp [SV.cells] at hu
    subst hu; simpa using h1
  | bool =>
    intro off F h
    simp only [loadVC, ad_eq] at h
    obtain ⟨n, h1, h2⟩ := h
    refine ⟨.bool n, by simp [SV.shape], h2, fun j u hu => ?_⟩
    cases j <;> simp [SV.cells] at hu
    subst hu; simpa using h1
  | str =>
    intro off F h
    simp only [loadVC, ad_eq] at h
    obtain ⟨n, h1, h2⟩ := h
    refine ⟨.str n, by simp [SV.shape], h2, fun j u hu => ?_⟩
    cases j <;> simp [SV.cells] at hu
    subst hu; simpa using h1
  | ptr e =>
    intro off F h
    simp only [loadVC, ad_eq] at h
    obtain ⟨n, h1, h2⟩ := h
    refine ⟨.ptr n, by simp [SV.shape], h2, fun j u hu => ?_⟩
    cases j <;> simp [SV.cells] at hu
    subst hu; simpa using h1
  | slice e =>
    intro off F h
    simp only [loadVC, ad_eq] at h
    obtain ⟨n, h1, h2⟩ := h
    refine ⟨.slice n, by simp [SV.shape], h2, fun j u hu => ?_⟩
    cases j <;> simp [SV.cells] at hu
    subst hu; simpa using h1
  | map =>
    intro off F h
    simp only [loadVC, ad_eq] at h
    obtain ⟨n, h1, h2⟩ := h
    refine ⟨.map n, by simp [SV.shape], h2, fun j u hu => ?_⟩
    cases j <;> simp [SV.cells] at hu
    subst hu; simpa using h1
  | arr k n =>
    intro off F h
    simp only [loadVC] at h
    obtain ⟨f, h1, h2⟩ := h
    refine ⟨.arr k n f, by simp [SV.shape, ksame_refl], h2, fun j u hu => ?_⟩
    simp only [SV.cells, List.getElem?_map, Option.map_eq_some_iff] at hu
    obtain ⟨i, hi, rfl⟩ := hu
    obtain ⟨hlt, e⟩ := List.getElem?_eq_some_iff.1 hi
    simp at e hlt
    subst e
    exact h1 j hlt
  | struct b ts ih =>
    intro off F h
    simp only [loadVC] at h
    obtain ⟨l, h1, h2, h3⟩ := ih h
    exact ⟨.struct l, by simp [SV.shape, h1], h2, fun j u hu => h3 j u (by simpa [SV.cells] using hu)⟩
  | tuple ts ih => intro off F h; simp only [loadVC] at h
  | other => intro off F h; simp only [loadVC] at h
  | nil =>
    rename_i off F h
    simp only [loadsVC] at h
    exact ⟨[], by simp [SV.shapes], h, by simp [SV.cellsL]⟩
  | cons t r ih1 ih2 =>
    rename_i off F h
    simp only [loadsVC] at h
    obtain ⟨x, h1, h2, h3⟩ := ih1 h
    obtain ⟨l, h4, h5, h6⟩ := ih2 h2
    refine ⟨x :: l, by simp [SV.shapes, h1, h4], h5, fun j u hu => ?_⟩
    simp only [SV.cellsL] at hu
    by_cases hj : j < x.cells.length
    · rw [List.getElem?_append_left hj] at hu; exact h3 j u hu
    · rw [List.getElem?_append_right (by omega)] at hu
      have := h6 _ u hu
      rw [shape_size h1] at this hj
      rwa [show off + t.size + (j - t.size) = off + j by omega] at this

theorem mem_load {ad : Addr} {t : Nat} {F : SV → Prop} (ok : TabOK X) {w wa : World} (h : loadVC ad w (X.T t) 0 F) (hD : isData (X.T t) = true) (hcell : ∀ b u, w.cell? b = some u → wa.cell? b = some u) :
    ∃ x, x.shape (X.T t) = true ∧ F x ∧ (Instr.loadAt t (.pointer (some ad))).run X.P wa = .ok x.enc wa := by
  obtain ⟨x, h1, h2, h3⟩ := loadVC_cells h
  refine ⟨x, h1, h2, ?_⟩
  have h3' : ∀ j u, x.cells[j]? = some u → wa.cell? (ad.add j) = some u := fun j u hu => hcell _ _ (by simpa using h3 j u hu)
  simp only [Instr.loadAt, Instr.sureAddr, loadVar, Sem.run_bind, Sem.run_pure, Result.andThen_ok, isAgg_run ok t hD, sizeOf_run ok t hD]
  cases hag : isAggTy (X.T t) with
  | true =>
    have hlc := run_loadCells_list (P := X.P) wa ad x.cells h3'
    rw [shape_size h1] at hlc
    simp only [if_true, Sem.run_bind, sizeOf_run ok t hD, Result.andThen_ok, hlc, Sem.run_pure]
    rw [enc_agg h1 hag]
  | false =>
    have hsc := enc_scalar h1 hag
    have := h3' 0 x.enc (by rw [hsc]; rfl)
    have h0 : ad.add 0 = ad := rfl
    rw [h0] at this
    simp [run_load, this]

theorem loadVC_data {ad : Addr} {w : World} {t : Ty} {F : SV → Prop} (h : loadVC ad w t 0 F) : isData t = true := by
  cases t <;> first | rfl | (simp only [loadVC] at h)
end
end Go.Vc
end

section
namespace Go.Vc
open Go.RowKit (Below)
set_option linter.unusedSimpArgs false
set_option linter.unusedVariables false
set_option autoImplicit false

theorem setCells_heap (b : Nat) : ∀ (vs : List Value) (o : Nat) (w : World) (k : Nat), k ≠ b → (w.setCells b o vs).heap[k]? = w.heap[k]?
  | [], _, _, _, _ => rfl
  | v :: r, o, w, k, h => by rw [World.setCells, setCells_heap b r _ _ k h, Below.heap_setCell _ _ _ _ h]
theorem setCells_size (b : Nat) : ∀ (vs : List Value) (o : Nat) (w : World), (w.setCells b o vs).heap.size = w.heap.size
  | [], _, _ => rfl
  | v :: r, o, w => by rw [World.setCells, setCells_size b r]; simp [World.setCell]
theorem setCells_os (b : Nat) : ∀ (vs : List Value) (o : Nat) (w : World), (w.setCells b o vs).os = w.os ∧ (w.setCells b o vs).tape = w.tape ∧ (w.setCells b o vs).output = w.output
  | [], _, _ => ⟨rfl, rfl, rfl⟩
  | v :: r, o, w => by rw [World.setCells]; exact setCells_os b r _ _

theorem setCell_at (w : World) (b o : Nat) (v : Value) (c : Array Value) (e : TypeId) (fr : Nat × Nat) (h : w.heap[b]? = some (.cells c e fr)) : (w.setCell ⟨b, o, none⟩ v).heap[b]? = some (.cells (c.setIfInBounds o v) e fr) := by
  have hlt : b < w.heap.size := (Array.getElem?_eq_some_iff.1 h).1
  have hv : w.heap[b] = .cells c e fr := (Array.getElem?_eq_some_iff.1 h).2
  unfold World.setCell
  rw [Array.getElem?_eq_getElem (by simpa using hlt), Array.getElem_modify]
  simp [hv]

/-- the row behind a store -/
theorem setCells_at (b : Nat) (e : TypeId) (fr : Nat × Nat) : ∀ (vs pre old post : List Value) (w : World), w.heap[b]? = some (.cells (pre ++ old ++ post).toArray e fr) → old.length = vs.length →
    (w.setCells b pre.length vs).heap[b]? = some (.cells (pre ++ vs ++ post).toArray e fr)
  | [], pre, old, post, w, h, hl => by simp at hl; subst hl; exact h
  | v :: r, pre, [], post, w, h, hl => by simp at hl
  | v :: r, pre, u :: old, post, w, h, hl => by
    have h1 := setCell_at w b pre.length v _ e fr h
    have h2 : ((pre ++ u :: old ++ post).toArray).setIfInBounds pre.length v = ((pre ++ [v]) ++ old ++ post).toArray := by apply Array.ext'; simp
    rw [h2] at h1
    have := setCells_at b e fr r (pre ++ [v]) old post _ h1 (by simpa using hl)
    simp only [World.setCells]
    simpa using this

theorem store_run {P : Program} {w : World} {a : Addr} {vs : List Value} (h1 : ∀ v ∈ vs, v.oneCell' = true) (hc : ∀ i, i < vs.length → (w.cell? (a.add i)).isSome = true ∧ w.frozen? (a.add i) = false) :
    (storeCells a vs).run P w = .ok () (w.setCells a.block a.off vs) := by
  cases vs with
  | nil => rfl
  | cons v r =>
    have hs : a.spot = none := by
      have := (hc 0 (by simp)).1
      have h0 : a.add 0 = a := rfl
      rw [h0] at this
      unfold World.cell? at this
      cases hsp : a.spot with
      | none => rfl
      | some x => rw [hsp] at this; revert this; cases w.heap[a.block]? with
        | none => simp
        | some o => cases o <;> simp
    obtain ⟨b, o, sp⟩ := a
    simp only at hs
    subst hs
    have hadd : ∀ j, (⟨b, o, none⟩ : Addr).add j = ⟨b, o + j, none⟩ := fun j => by unfold Addr.add; split <;> simp_all
    have := run_storeCells_cells (P := P) b o (v :: r) 0 w (fun j hj => by have := (hc j hj).1; rwa [hadd] at this) (fun j hj => by have := (hc j hj).2; rwa [hadd] at this) h1
    simpa using this

theorem live_mem {s : St} {i b t : Nat} {c : SV} (hb : s.bx i = some (.box b t c)) : ∀ {l : List Nat}, i ∈ l → b ∈ s.liveFrom l
  | [], h => by cases h
  | x :: r, h => by
    simp only [St.liveFrom]
    rcases List.mem_cons.1 h with rfl | h
    · rw [hb]; simp
    · split
      · exact List.mem_cons_of_mem _ (live_mem hb h)
      · exact live_mem hb h
theorem mem_upFrom : ∀ {n a i : Nat}, i ∈ upFrom a n ↔ a ≤ i ∧ i < a + n
  | 0, a, i => by simp [upFrom] <;> omega
  | n + 1, a, i => by simp [upFrom, mem_upFrom (n := n)] <;> omega
theorem live_of {s : St} {i b t : Nat} {c : SV} (hb : s.bx i = some (.box b t c)) (hi : i < s.nb) : b ∈ s.live := live_mem hb (mem_upFrom.2 ⟨Nat.zero_le _, by omega⟩)

theorem liveFrom_congr {s s' : St} (h : s'.bx = s.bx) : ∀ l, s'.liveFrom l = s.liveFrom l
  | [] => rfl
  | i :: r => by simp only [St.liveFrom, h, liveFrom_congr h r]
theorem live_clean (s : St) : s.clean.live = s.live := liveFrom_congr (s := s) (s' := s.clean) rfl _

section
variable {X : Tab} (ok : TabOK X) {N : Nat} {s : St} {w : World} {a : Act} {wa : World} {o : Oper} {K : St → World → Prop} {Q : Exit → Act → World → Prop}

/-- what a world operation that leaves the boxes alone comes to -/
theorem world_post (hr : Rel X N s.clean wa a wa) (hd : ∀ t, o.dst = some t → t < N) {s0 : St} (h0 : s0.nb = s.nb) (hbx : lstore s0 o = false → escapes s0 o = false → s.bx = s0.bx) {w2 : World} {v : Value} {sv : SV} (hp : plain sv = true) (hv : v = sv.enc)
    (hk : ∀ b ∈ s.live, w2.heap[b]? = wa.heap[b]?) (hK : K (s.clean.putD o.dst sv) w2) : OpPost X N K s0 o a (a.put o.dst v) w2 := by
  refine ⟨_, w2, hK, ?_, by rw [putD_nb]; exact Nat.le_of_eq h0, fun h1 h2 i _ => by rw [putD_bx]; exact congrFun (hbx h1 h2) i, v, rfl⟩
  have := hr.world (w2 := w2) (fun i b t c hb => hk b (live_of hb (hr.bx i b t c hb).1))
  exact this.putD hd ((relv_plain hp).2 hv) (fun id off p e => by subst e; simp [plain] at hp)

theorem keeps_live (hr : Rel X N s.clean wa a wa) {w2 : World} {F : Prop} (h : keepsThen s.live wa w2 F) : F ∧ ∀ b ∈ s.live, w2.heap[b]? = wa.heap[b]? := by
  unfold keepsThen at h
  split at h
  · rename_i e; exact ⟨h, fun b hb => by rw [e] at hb; cases hb⟩
  · rename_i x r e
    refine ⟨h.2, fun b hb => ?_⟩
    rw [e] at hb
    rcases h.1 with hu | hk
    · have : ∃ i t c, s.bx i = some (.box b t c) := by
        have : ∀ l, b ∈ s.liveFrom l → ∃ i t c, s.bx i = some (.box b t c) := by
          intro l
          induction l with
          | nil => intro h; cases h
          | cons i l ih =>
            intro h
            simp only [St.liveFrom] at h
            split at h
            · rename_i b' t c hb'
              rcases List.mem_cons.1 h with rfl | h
              · exact ⟨i, t, c, hb'⟩
              · exact ih h
            · exact ih h
        exact this _ (by rw [← e] at hb; exact hb)
      obtain ⟨i, t, c, hi⟩ := this
      exact hu.keep b (Array.getElem?_eq_some_iff.1 (hr.bx i b t c hi).2.1).1 (by simp)
    · exact hk b hb

include ok in
/-- a call -/
theorem call_wp {c : Call} {f : Operand} {cs l : List SV} {fid : Nat} (hop : o.op = .call c) (hcal : c.callee = .value f) (hr : Rel X N s w a wa) (hd : ∀ t, o.dst = some t → t < N)
    (hf : s.ev f = some (.clo fid cs)) (hC : X.C fid = true) (hl : s.evs c.args.toList = some l) (hp : allPlain l = true) {s0 : St} (h0 : s0.nb = s.nb) (hbx : escapes s0 o = false → s.bx = s0.bx)
    (h : s.flush w fun s w => Ret X.P fid (l ++ cs) w fun r w1 => (X.T o.type).ex fun v => r = v ∧ keepsThen s.live w w1 (K (s.putD o.dst v) w1)) : o.wp X.P a wa (OpPost X N K s0 o a) Q := by
  have h1 := flush_sound h hr
  have hfv := hr.ev f _ hf
  simp only [RelV, SV.enc] at hfv
  have hargs := evs_sound hr.ev hl hp
  obtain ⟨fn, hfn, hbody, hname⟩ := ok.call fid hC
  have hrun : (execOp a.eval o).run X.P wa = .ok (.enter fid (SV.encL (l ++ cs)).toArray) wa := by
    have ha : c.args.map a.eval = (SV.encL l).toArray := by rw [← hargs]; apply Array.ext'; simp
    have he : SV.encL (l ++ cs) = SV.encL l ++ SV.encL cs := by rw [encL_eq, encL_eq, encL_eq, List.map_append]
    have hname' : ¬ (fn.name = "runtime.NumGoroutine") := by simpa using hname
    have hb' : ¬ fn.body = none := by intro e; rw [e] at hbody; cases hbody
    simp [execOp, hop, resolve, hcal, hfv, Deferred.ofValue, ha, invoke, callFunc, run_program, hfn, hname', hb', he]
  unfold Oper.wp
  rw [hrun, Oper.upon_enter]
  have h2 : Calls X.P fid (SV.encL (l ++ cs)).toArray wa _ := h1
  refine h2.mono fun e w1 hpost => ?_
  obtain ⟨r, rfl, hex⟩ := hpost
  -- the typed result
  have exsound : ∀ (t : Ty) (F : SV → Prop), t.ex F → ∃ v, F v ∧ plain v = true := by
    intro t
    induction t using Ty.rec (motive_2 := fun ts => ∀ F : List SV → Prop, Ty.exs ts F → ∃ l, F l) with
    | int k => intro F ⟨n, h⟩; exact ⟨_, h, rfl⟩
    | bool => intro F ⟨n, h⟩; exact ⟨_, h, rfl⟩
    | str => intro F ⟨n, h⟩; exact ⟨_, h, rfl⟩
    | ptr e => intro F ⟨n, h⟩; exact ⟨_, h, rfl⟩
    | slice e => intro F ⟨n, h⟩; exact ⟨_, h, rfl⟩
    | map => intro F ⟨n, h⟩; exact ⟨_, h, rfl⟩
    | arr k n => intro F ⟨n, h⟩; exact ⟨_, h, rfl⟩
    | struct b ts ih => intro F h; obtain ⟨l, h⟩ := ih _ h; exact ⟨_, h, rfl⟩
    | tuple ts ih => intro F h; obtain ⟨l, h⟩ := ih _ h; exact ⟨_, h, rfl⟩
    | other => intro F ⟨n, h⟩; exact ⟨_, h, rfl⟩
    | nil => rename_i F h; exact ⟨_, h⟩
    | cons t r ih1 ih2 => rename_i F h; obtain ⟨x, h, _⟩ := ih1 _ h; obtain ⟨l, h⟩ := ih2 _ h; exact ⟨_, h⟩
  obtain ⟨v, ⟨rfl, hk⟩, hpl⟩ := exsound _ _ hex
  rw [live_clean] at hk
  obtain ⟨hK, hkeep⟩ := keeps_live hr.clean hk
  exact world_post hr.clean hd h0 (fun _ h => hbx h) hpl rfl hkeep hK
include ok in
/-- a method of an interface value -/
theorem invoke_wp {c : Call} {recv : Operand} {name : String} {v0 : Value} {l : List SV} (hop : o.op = .call c) (hcal : c.callee = .invoke recv name) (hr : Rel X N s w a wa) (hd : ∀ t, o.dst = some t → t < N)
    (hf : s.ev recv = some (.raw v0)) (hl : s.evs c.args.toList = some l) (hp : allPlain l = true) {s0 : St} (h0 : s0.nb = s.nb) (hbx : escapes s0 o = false → s.bx = s0.bx)
    (h : s.flush w fun s w => ∃ d x f y, v0 = .iface d x ∧ MethOf X.P d x name f y ∧ X.C f = true ∧ Ret X.P f (.raw y :: l) w fun r w1 => (X.T o.type).ex fun v => r = v ∧ keepsThen s.live w w1 (K (s.putD o.dst v) w1)) : o.wp X.P a wa (OpPost X N K s0 o a) Q := by
  obtain ⟨dt, x, fid, y, rfl, hM, hC, h1⟩ := flush_sound h hr
  have hfv := hr.ev recv _ hf
  simp only [RelV, SV.enc] at hfv
  have hargs := evs_sound hr.ev hl hp
  obtain ⟨fn, hfn, hbody, hname⟩ := ok.call fid hC
  have hrun : (execOp a.eval o).run X.P wa = .ok (.enter fid (SV.encL (.raw y :: l)).toArray) wa := by
    have ha : c.args.map a.eval = (SV.encL l).toArray := by rw [← hargs]; apply Array.ext'; simp
    have hname' : ¬ (fn.name = "runtime.NumGoroutine") := by simpa using hname
    have hb' : ¬ fn.body = none := by intro e; rw [e] at hbody; cases hbody
    have hM' := hM wa
    have he : (#[y] ++ (SV.encL l).toArray) = (SV.encL (.raw y :: l)).toArray := by simp [SV.encL, SV.enc]
    have hx : (#[Value.iface dt x] ++ (SV.encL l).toArray).extract 1 (#[Value.iface dt x] ++ (SV.encL l).toArray).size = (SV.encL l).toArray := by
      apply Array.ext'
      simp
    simp only [execOp, hop, resolve, hcal, hfv, ha, invoke, callMethod, Sem.run_bind, Sem.run_pure, Result.andThen]
    simp [callMethod, hx, run_program, hM', Result.andThen, callFunc, hfn, hname', hb', he, SV.encL, SV.enc]
  unfold Oper.wp
  rw [hrun, Oper.upon_enter]
  have h2 : Calls X.P fid (SV.encL (.raw y :: l)).toArray wa _ := h1
  refine h2.mono fun e w1 hpost => ?_
  obtain ⟨r, rfl, hex⟩ := hpost
  -- the typed result
  have exsound : ∀ (t : Ty) (F : SV → Prop), t.ex F → ∃ v, F v ∧ plain v = true := by
    intro t
    induction t using Ty.rec (motive_2 := fun ts => ∀ F : List SV → Prop, Ty.exs ts F → ∃ l, F l) with
    | int k => intro F ⟨n, h⟩; exact ⟨_, h, rfl⟩
    | bool => intro F ⟨n, h⟩; exact ⟨_, h, rfl⟩
    | str => intro F ⟨n, h⟩; exact ⟨_, h, rfl⟩
    | ptr e => intro F ⟨n, h⟩; exact ⟨_, h, rfl⟩
    | slice e => intro F ⟨n, h⟩; exact ⟨_, h, rfl⟩
    | map => intro F ⟨n, h⟩; exact ⟨_, h, rfl⟩
    | arr k n => intro F ⟨n, h⟩; exact ⟨_, h, rfl⟩
    | struct b ts ih => intro F h; obtain ⟨l, h⟩ := ih _ h; exact ⟨_, h, rfl⟩
    | tuple ts ih => intro F h; obtain ⟨l, h⟩ := ih _ h; exact ⟨_, h, rfl⟩
    | other => intro F ⟨n, h⟩; exact ⟨_, h, rfl⟩
    | nil => rename_i F h; exact ⟨_, h⟩
    | cons t r ih1 ih2 => rename_i F h; obtain ⟨x, h, _⟩ := ih1 _ h; obtain ⟨l, h⟩ := ih2 _ h; exact ⟨_, h⟩
  obtain ⟨v, ⟨rfl, hk⟩, hpl⟩ := exsound _ _ hex
  rw [live_clean] at hk
  obtain ⟨hK, hkeep⟩ := keeps_live hr.clean hk
  exact world_post hr.clean hd h0 (fun _ h => hbx h) hpl rfl hkeep hK
end
end Go.Vc
end

section
namespace Go.Vc
open Go.RowKit (Below)
set_option linter.unusedSimpArgs false
set_option linter.unusedVariables false
set_option autoImplicit false

theorem flat_rep {α : Type} [Inhabited α] (z : List α) : ∀ n, ((List.range (n * z.length)).map fun i => z[i % z.length]!) = (List.replicate n z).flatten
  | 0 => by simp
  | n + 1 => by
    rw [List.replicate_succ', List.flatten_append, ← flat_rep z n, Nat.add_mul, Nat.one_mul, List.range_add, List.map_append, List.map_map]
    congr 1
    simp only [List.flatten_cons, List.flatten_nil, List.append_nil]
    apply List.ext_getElem
    · simp
    · intro i h1 h2
      simp at h1
      simp [Nat.mul_add_mod_of_lt, h1, Nat.mod_eq_of_lt h1]

theorem zeroCells_eq (z : List Value) (n : Nat) : Builtin.zeroCells z.toArray n = (List.replicate n z).flatten.toArray := by
  rw [← flat_rep z n]
  unfold Builtin.zeroCells
  apply Array.ext'
  simp [Array.toList_map]

theorem live_box {s : St} {b : Nat} (h : b ∈ s.live) : ∃ i t c, s.bx i = some (.box b t c) := by
  have : ∀ l, b ∈ s.liveFrom l → ∃ i t c, s.bx i = some (.box b t c) := by
    intro l
    induction l with
    | nil => intro h; cases h
    | cons i l ih =>
      intro h
      simp only [St.liveFrom] at h
      split at h
      · rename_i b' t c hb'
        rcases List.mem_cons.1 h with rfl | h
        · exact ⟨i, t, c, hb'⟩
        · exact ih h
      · exact ih h
  exact this _ h

section
variable {X : Tab} (ok : TabOK X) {N : Nat} {s : St} {w : World} {a : Act} {wa : World} {o : Oper} {K : St → World → Prop} {Q : Exit → Act → World → Prop}

theorem full_zero {e : Nat} (ok : TabOK X) (h : isFull (X.T e) = true) : ∃ z i, (X.T e).zero = some z ∧ isData (X.T e) = true ∧ X.P.info? e = some i ∧ i.size = (X.T e).size ∧ i.bytes = X.B e ∧ i.zero = some z.enc ∧ z.shape (X.T e) = true ∧ z.enc.cells = z.cells.toArray ∧ z.cells.length = (X.T e).size := by
  unfold isFull at h
  split at h
  · rename_i z hz
    obtain ⟨i, h1, h2, h3, h4⟩ := ok.info e h
    have hs := zero_shape hz
    exact ⟨z, i, hz, h, h1, h2, h3, h4 z hz, hs, enc_cells hs, shape_size hs⟩
  · cases h

theorem zerosOf_eq {t : Ty} {z : SV} (hz : t.zero = some z) (n : Nat) : zerosOf t n = (List.replicate n z.cells).flatten := by simp [zerosOf, hz]

theorem firstCells_row {P : Program} {w : World} {x : Sl} {sz n : Nat} {l : List Value} (h : RowAt w x.ptr (n * sz) l) : (Builtin.firstCells sz n x.val).run P w = .ok l.toArray w := by
  unfold RowAt at h
  obtain ⟨p, len, cap⟩ := x
  cases p with
  | none => simp only at h; subst h; simp [Builtin.firstCells, Sl.val]
  | some a =>
    simp only at h
    obtain ⟨h1, h2, _⟩ := h
    have := run_loadCells_list (P := P) w a l (fun j v hv => by obtain ⟨hj, e⟩ := List.getElem?_eq_some_iff.1 hv; rw [← e]; exact h2 j hj)
    rw [h1] at this
    simp [Builtin.firstCells, Sl.val, this]

theorem row_one {w : World} {p : Option Addr} {n : Nat} {l : List Value} (h : RowAt w p n l) : ∀ v ∈ l, v.oneCell' = true := by
  unfold RowAt at h
  cases p with
  | none => simp only at h; subst h; simp
  | some a => exact h.2.2


/-- what an append comes to, once its new cells are known -/
theorem appendN_sound {e : Nat} (hf : isFull (X.T e) = true) (ok : TabOK X) {p : Sl} {n : Nat} {new : List Value} (hone : ∀ v ∈ new, v.oneCell' = true) {bs : List Nat} {F : Sl → World → Prop}
    (h : AppendN e (X.T e).size (X.B e) p n new bs wa F) :
    (p.len + n ≤ p.cap ∧ ∃ w2, (∀ r : World → Result Value, (match p.ptr with | some a => (storeCells (a.add (p.len * (X.T e).size)) new).run X.P wa | none => .ok () wa) = .ok () w2) ∧ F ⟨p.ptr, p.len + n, p.cap⟩ w2 ∧ ∀ b ∈ bs, w2.heap[b]? = wa.heap[b]?) ∨
    (p.cap < p.len + n ∧ p.len + n ≤ 9223372036854775807 ∧ Builtin.nextslicecap (p.len + n) p.cap * X.B e ≤ 281474976710656 ∧
      ∃ old z, (X.T e).zero = some z ∧ (Builtin.firstCells (X.T e).size p.len p.val).run X.P wa.drew = .ok old wa.drew ∧ 
        ∀ cap, p.len + n ≤ cap → F ⟨some ⟨wa.heap.size, 0, none⟩, p.len + n, cap⟩ (wa.drew.alloc (.cells (old ++ new.toArray ++ Builtin.zeroCells z.cells.toArray (cap - (p.len + n))) e))) := by
  obtain ⟨z, i, hz1, hD, hi, hi1, hi2, hi3, hzs1, hzs2, hzs3⟩ := full_zero ok hf
  by_cases hroom : p.len + n ≤ p.cap
  · left
    refine ⟨hroom, ?_⟩
    have h1 := h.1 hroom
    obtain ⟨ptr, len, cap⟩ := p
    cases ptr with
    | none => exact ⟨wa, fun _ => rfl, h1, fun _ _ => rfl⟩
    | some ad =>
      simp only at h1
      obtain ⟨hc, hb, hF⟩ := h1
      refine ⟨_, fun _ => store_run hone hc, hF, fun b hb' => setCells_heap _ _ _ _ _ ?_⟩
      rintro rfl
      exact hb hb'
  · right
    obtain ⟨h1, h2, old, h3, h4⟩ := h.2 (by omega)
    refine ⟨by omega, h1, h2, old.toArray, z, hz1, ?_, fun cap hcap => ?_⟩
    · have hrow : RowAt wa.drew p.ptr (p.len * (X.T e).size) old := h3
      exact firstCells_row hrow
    · refine h4 cap wa.heap.size _ _ hcap ?_ (heap_alloc_new wa.drew _) ?_ ?_
      · exact ⟨rfl, rfl, rfl, by simp, fun k hk _ => Below.heap_alloc wa.drew _ k hk, by simp⟩
      · simp only [zeroCells_eq, Array.toList_append, List.append_assoc, List.toList_toArray]
        rw [← List.append_assoc, ← List.length_append]
        exact List.take_left
      · simp [size_zeroCells, hzs3, Nat.add_assoc]

include ok in
theorem append_sl_wp {c : Call} {t u e e2 : Nat} {x y : Operand} {p q : Sl} (hop : o.op = .call c) (hcal : c.callee = .builtin .append) (hat : c.argTypes.toList = [t, u]) (hag : c.args.toList = [x, y])
    (ht : X.T t = .slice e) (hu : X.T u = .slice e2) (hx : s.ev x = some (.slice p)) (hy : s.ev y = some (.slice q)) (hf : isFull (X.T e) = true) (hr : Rel X N s w a wa) (hd : ∀ t, o.dst = some t → t < N)
    (h : s.flush w fun s w => Append e (X.T e).size (X.B e) p q s.live w fun r w => K (s.putD o.dst (.slice r)) w) : o.wp X.P a wa (OpPost X N K s o a) Q := by
  obtain ⟨new, hrow, hN⟩ := flush_sound h hr
  rw [live_clean] at hN
  have hT := ok.ty t; rw [ht] at hT; simp only [tyOK] at hT
  have hU := ok.ty u; rw [hu] at hU; simp only [tyOK] at hU
  have hxv := hr.ev x _ hx
  have hyv := hr.ev y _ hy
  simp only [RelV, SV.enc] at hxv hyv
  obtain ⟨z, i, hz1, hD, hi, hi1, hi2, hi3, hzs1, hzs2, hzs3⟩ := full_zero ok hf
  have ha1 : c.args = #[x, y] := by apply Array.ext'; simpa using hag
  have ha2 : c.argTypes = #[t, u] := by apply Array.ext'; simpa using hat
  have hone := row_one hrow
  have hfc := firstCells_row (P := X.P) hrow
  have hrow' : RowAt wa.drew q.ptr (q.len * (X.T e).size) new := hrow
  have hfc' := firstCells_row (P := X.P) hrow'
  obtain ⟨pp, pl, pc⟩ := p
  obtain ⟨qp, ql, qc⟩ := q
  simp only [Sl.val] at *
  rcases appendN_sound hf ok hone hN with ⟨hroom, w2, hst, hF, hk⟩ | ⟨hroom, h1, h2, old, z', hz', hold, hF⟩
  · simp only at hroom hst hF hk
    have hrun : (execOp a.eval o).run X.P wa = .ok (.value (.slice pp (pl + ql) pc)) w2 := by
      cases pp with
      | none =>
        have := hst fun w => .ok undef w
        simp only at this
        cases this
        simp [execOp, hop, resolve, hcal, ha1, ha2, hxv, hyv, invoke, builtin, Builtin.append_, run_underlying hT, run_underlying hU, sizeOf_run ok e hD, Builtin.lenOf, hroom, hfc]
      | some ad =>
        have := hst fun w => .ok undef w
        simp only at this
        simp [execOp, hop, resolve, hcal, ha1, ha2, hxv, hyv, invoke, builtin, Builtin.append_, run_underlying hT, run_underlying hU, sizeOf_run ok e hD, Builtin.lenOf, hroom, hfc, this]
    unfold Oper.wp
    rw [hrun, Oper.upon_value]
    exact world_post hr.clean hd rfl (fun _ _ => rfl) rfl rfl hk hF
  · simp only [Sl.val] at hroom h1 h2 hold hF
    rw [hz1] at hz'
    cases hz'
    have hrun : (execOp a.eval o).run X.P wa = .ok (.value (.slice (some ⟨wa.heap.size, 0, none⟩) (pl + ql) (grownCap wa (pl + ql) pc e))) (wa.drew.alloc (.cells (old ++ new.toArray ++ Builtin.zeroCells z.cells.toArray (grownCap wa (pl + ql) pc e - (pl + ql))) e)) := by
      have e1 : ¬ (pl + ql ≤ pc) := by omega
      have e2 : ¬ (9223372036854775807 < ((pl : Int) + (ql : Int))) := by omega
      have e3 : ¬ (281474976710656 < Builtin.nextslicecap (pl + ql) pc * X.B e) := by omega
      simp [execOp, hop, resolve, hcal, ha1, ha2, hxv, hyv, invoke, builtin, Builtin.append_, run_underlying hT, run_underlying hU, sizeOf_run ok e hD, Builtin.lenOf, e1, e2, e3, typeInfo, hi, hi2, h2, zeroValue, hi3, hzs2, Question.forced, hold, hfc', newRow, grownCap]
    unfold Oper.wp
    rw [hrun, Oper.upon_value]
    exact world_post hr.clean hd rfl (fun _ _ => rfl) rfl rfl (fun b hb => (by
      obtain ⟨i', t', c', hb'⟩ := live_box hb
      exact Below.heap_alloc wa.drew _ b (Array.getElem?_eq_some_iff.1 (hr.bx i' b t' c' hb').2.1).1)) (hF _ (grownCap_ge _ _ _ _))

include ok in
theorem append_z_wp {c : Call} {t u e : Nat} {x y : Operand} {p : Sl} {n : Int} (hop : o.op = .call c) (hcal : c.callee = .builtin .append) (hat : c.argTypes.toList = [t, u]) (hag : c.args.toList = [x, y])
    (ht : X.T t = .slice e) (hu : X.T u = .int .i64) (hx : s.ev x = some (.slice p)) (hy : s.ev y = some (.int .i64 n)) (hf : isFull (X.T e) = true) (hr : Rel X N s w a wa) (hd : ∀ t, o.dst = some t → t < N)
    (h : s.flush w fun s w => Need (decide (0 ≤ n) && decide (n ≤ 281474976710656) && decide (n * (X.B e : Int) ≤ 281474976710656)) (AppendN e (X.T e).size (X.B e) p n.toNat (zerosOf (X.T e) n.toNat) s.live w fun r w => K (s.putD o.dst (.slice r)) w)) : o.wp X.P a wa (OpPost X N K s o a) Q := by
  have h' := flush_sound h hr
  simp only [Need_iff, Bool.and_eq_true, decide_eq_true_eq] at h'
  obtain ⟨⟨⟨h0, hn48⟩, hb⟩, hN⟩ := h'
  rw [live_clean] at hN
  have hT := ok.ty t; rw [ht] at hT; simp only [tyOK] at hT
  have hU := ok.ty u; rw [hu] at hU; simp only [tyOK] at hU
  have hxv := hr.ev x _ hx
  have hyv := hr.ev y _ hy
  simp only [RelV, SV.enc] at hxv hyv
  obtain ⟨z, i, hz1, hD, hi, hi1, hi2, hi3, hzs1, hzs2, hzs3⟩ := full_zero ok hf
  have ha1 : c.args = #[x, y] := by apply Array.ext'; simpa using hag
  have ha2 : c.argTypes = #[t, u] := by apply Array.ext'; simpa using hat
  have hzeq := zerosOf_eq hz1 n.toNat
  have hzc := zeroCells_eq z.cells n.toNat
  have hone : ∀ v ∈ zerosOf (X.T e) n.toNat, v.oneCell' = true := by
    rw [hzeq]
    intro v hv
    obtain ⟨l, hl, hv⟩ := List.mem_flatten.1 hv
    rw [List.eq_of_mem_replicate hl] at hv
    exact cells_one hzs1 v hv
  have hw : IntKind.i64.wrap n = n := by unfold IntKind.wrap; simp [IntKind.bits, IntKind.signed]; omega
  have hnil : n.toNat * (X.T e).size = 0 → zerosOf (X.T e) n.toNat = [] := by
    intro h00
    rw [hzeq]
    rw [← hzs3] at h00
    apply List.eq_nil_of_length_eq_zero
    simp [List.length_flatten, h00]
  have hzc' : Builtin.zeroCells z.cells.toArray n.toNat = (zerosOf (X.T e) n.toNat).toArray := by rw [hzc, hzeq]
  obtain ⟨pp, pl, pc⟩ := p
  simp only [Sl.val] at *
  have e0 : ¬ (n < 0) := by omega
  have eb : ¬ (281474976710656 < n * (X.B e : Int)) := by omega
  rcases appendN_sound hf ok hone hN with ⟨hroom, w2, hst, hF, hk⟩ | ⟨hroom, h1, h2, old, z', hz', hold, hF⟩
  · simp only at hroom hst hF hk
    have hrun : (execOp a.eval o).run X.P wa = .ok (.value (.slice pp (pl + n.toNat) pc)) w2 := by
      have := hst fun w => .ok undef w
      by_cases h00 : n.toNat * (X.T e).size = 0
      · rw [hnil h00] at this
        cases pp with
        | none =>
          simp only at this
          cases this
          simp [execOp, hop, resolve, hcal, ha1, ha2, hxv, hyv, invoke, builtin, Builtin.append_, run_underlying hT, run_underlying hU, sizeOf_run ok e hD, asInt, asIntOf, hw, e0, typeInfo, hi, hi2, eb, hroom, h00]
        | some ad =>
          simp only at this
          simp [execOp, hop, resolve, hcal, ha1, ha2, hxv, hyv, invoke, builtin, Builtin.append_, run_underlying hT, run_underlying hU, sizeOf_run ok e hD, asInt, asIntOf, hw, e0, typeInfo, hi, hi2, eb, hroom, h00, this]
      · cases pp with
        | none =>
          simp only at this
          cases this
          simp [execOp, hop, resolve, hcal, ha1, ha2, hxv, hyv, invoke, builtin, Builtin.append_, run_underlying hT, run_underlying hU, sizeOf_run ok e hD, asInt, asIntOf, hw, e0, typeInfo, hi, hi2, eb, hroom, h00, zeroValue, hi3]
        | some ad =>
          simp only at this
          simp [execOp, hop, resolve, hcal, ha1, ha2, hxv, hyv, invoke, builtin, Builtin.append_, run_underlying hT, run_underlying hU, sizeOf_run ok e hD, asInt, asIntOf, hw, e0, typeInfo, hi, hi2, eb, hroom, h00, zeroValue, hi3, hzs2, hzc', this]
    unfold Oper.wp
    rw [hrun, Oper.upon_value]
    exact world_post hr.clean hd rfl (fun _ _ => rfl) rfl rfl hk hF
  · simp only [Sl.val] at hroom h1 h2 hold hF
    rw [hz1] at hz'
    cases hz'
    have hrun : (execOp a.eval o).run X.P wa = .ok (.value (.slice (some ⟨wa.heap.size, 0, none⟩) (pl + n.toNat) (grownCap wa (pl + n.toNat) pc e))) (wa.drew.alloc (.cells (old ++ (zerosOf (X.T e) n.toNat).toArray ++ Builtin.zeroCells z.cells.toArray (grownCap wa (pl + n.toNat) pc e - (pl + n.toNat))) e)) := by
      have e1 : ¬ (pl + n.toNat ≤ pc) := by omega
      have e2 : ¬ (9223372036854775807 < ((pl : Int) + max n 0)) := by omega
      have e3 : ¬ (281474976710656 < Builtin.nextslicecap (pl + n.toNat) pc * X.B e) := by omega
      by_cases h00 : n.toNat * (X.T e).size = 0
      · rw [hnil h00]
        simp [execOp, hop, resolve, hcal, ha1, ha2, hxv, hyv, invoke, builtin, Builtin.append_, run_underlying hT, run_underlying hU, sizeOf_run ok e hD, asInt, asIntOf, hw, e0, typeInfo, hi, hi2, eb, e1, e2, e3, h00, Question.forced, hold, newRow, grownCap, zeroValue, hi3, hzs2]
      · simp [execOp, hop, resolve, hcal, ha1, ha2, hxv, hyv, invoke, builtin, Builtin.append_, run_underlying hT, run_underlying hU, sizeOf_run ok e hD, asInt, asIntOf, hw, e0, typeInfo, hi, hi2, eb, e1, e2, e3, h00, Question.forced, hold, newRow, grownCap, zeroValue, hi3, hzs2, hzc']
    unfold Oper.wp
    rw [hrun, Oper.upon_value]
    exact world_post hr.clean hd rfl (fun _ _ => rfl) rfl rfl (fun b hb => (by
      obtain ⟨i', t', c', hb'⟩ := live_box hb
      exact Below.heap_alloc wa.drew _ b (Array.getElem?_eq_some_iff.1 (hr.bx i' b t' c' hb').2.1).1)) (hF _ (grownCap_ge _ _ _ _))
end
end Go.Vc
end

section
namespace Go.Vc
open Go.RowKit (Below)
set_option linter.unusedSimpArgs false
set_option linter.unusedVariables false
set_option autoImplicit false

section
variable {X : Tab} (ok : TabOK X) {N : Nat} {s : St} {w : World} {a : Act} {wa : World} {o : Oper} {K : St → World → Prop} {Q : Exit → Act → World → Prop}

include ok in
theorem copy_wp {c : Call} {t u e e2 : Nat} {x y : Operand} {p q : Sl} (hop : o.op = .call c) (hcal : c.callee = .builtin .copy) (hat : c.argTypes.toList = [t, u]) (hag : c.args.toList = [x, y])
    (ht : X.T t = .slice e) (hu : X.T u = .slice e2) (hx : s.ev x = some (.slice p)) (hy : s.ev y = some (.slice q)) (hD : isData (X.T e) = true) (hr : Rel X N s w a wa) (hd : ∀ t, o.dst = some t → t < N)
    (h : s.flush w fun s w => Copy (X.T e).size p q s.live w fun w => K (s.putD o.dst (.int .i64 (Nat.min q.len p.len : Nat))) w) : o.wp X.P a wa (OpPost X N K s o a) Q := by
  obtain ⟨new, hrow, hN⟩ := flush_sound h hr
  rw [live_clean] at hN
  have hT := ok.ty t; rw [ht] at hT; simp only [tyOK] at hT
  have hxv := hr.ev x _ hx
  have hyv := hr.ev y _ hy
  simp only [RelV, SV.enc] at hxv hyv
  have ha1 : c.args = #[x, y] := by apply Array.ext'; simpa using hag
  have ha2 : c.argTypes = #[t, u] := by apply Array.ext'; simpa using hat
  have hone := row_one hrow
  have hfc := firstCells_row (P := X.P) hrow
  obtain ⟨pp, pl, pc⟩ := p
  obtain ⟨qp, ql, qc⟩ := q
  simp only [Sl.val] at *
  have hrun : ∃ w2, (execOp a.eval o).run X.P wa = .ok (.value (.int .i64 (Nat.min ql pl : Nat))) w2 ∧ K (s.clean.putD o.dst (.int .i64 (Nat.min ql pl : Nat))) w2 ∧ ∀ b ∈ s.live, w2.heap[b]? = wa.heap[b]? := by
    cases pp with
    | none =>
      refine ⟨wa, ?_, hN, fun _ _ => rfl⟩
      simp [execOp, hop, resolve, hcal, ha1, ha2, hxv, hyv, invoke, builtin, Builtin.copy_, run_underlying hT, sizeOf_run ok e hD, Builtin.lenOf, hfc, goInt]
    | some ad =>
      obtain ⟨h1, h2, h3⟩ := hN
      have hst := store_run (P := X.P) hone h1
      refine ⟨_, ?_, h3, fun b hb => setCells_heap _ _ _ _ _ (by rintro rfl; exact h2 hb)⟩
      simp [execOp, hop, resolve, hcal, ha1, ha2, hxv, hyv, invoke, builtin, Builtin.copy_, run_underlying hT, sizeOf_run ok e hD, Builtin.lenOf, hfc, goInt, hst]
  obtain ⟨w2, h1, h2, h3⟩ := hrun
  unfold Oper.wp
  rw [h1, Oper.upon_value]
  exact world_post hr.clean hd rfl (fun _ _ => rfl) rfl rfl h3 h2

theorem bytesStr_run {P : Program} {w : World} {q : Sl} {F : ByteArray → Prop} (h : BytesStr w q F) : ∃ b, F b ∧ (Conv.bytesToString q.val).run P w = .ok (.string b) w := by
  obtain ⟨l, h1, h2, h3, h4⟩ := h
  refine ⟨_, h4, ?_⟩
  obtain ⟨p, len, cap⟩ := q
  cases p with
  | none =>
    have := h2 rfl
    subst this
    simp [Conv.bytesToString, Sl.val]
    rfl
  | some a =>
    simp only at h1
    have hl := run_loadCells_list (P := P) w a (l.map fun c => Value.int .u8 c.toNat) (fun j v hv => by
      simp only [List.getElem?_map, Option.map_eq_some_iff] at hv
      obtain ⟨c, hc, rfl⟩ := hv
      obtain ⟨hj, e⟩ := List.getElem?_eq_some_iff.1 hc
      have := h3 j hj
      simp only [Sl.at, Option.getD_some, Nat.mul_one] at this
      rw [this, e])
    simp only [List.length_map, h1] at hl
    have := run_bytesToString (P := P) w a len cap (l.map fun c => (c.toNat : Int)) (by rw [hl]; congr 2; simp)
    simp only [Sl.val]
    rw [this]
    congr 2
    have key : ∀ (l : List UInt8) (b : ByteArray), (l.map fun c => (c.toNat : Int)).foldl (fun r n => r.push (UInt8.ofNat n.toNat)) b = ⟨b.data ++ l.toArray⟩ := by
      intro l
      induction l with
      | nil => intro b; simp
      | cons c r ih =>
        intro b
        have hc : UInt8.ofNat ((c.toNat : Int)).toNat = c := by simp
        simp only [List.map_cons, List.foldl_cons, ih, hc]
        congr 1
        show b.data.push c ++ r.toArray = _
        apply Array.ext'
        simp
    rw [key]
    congr 1
    show (#[] : Array UInt8) ++ l.toArray = _
    simp

include ok in
theorem bytes_wp {src dst e : Nat} {x : Operand} {q : Sl} (hop : o.op = .convert src dst x) (hs : X.T src = .slice e) (hdt : X.T dst = .str) (he : X.T e = .int .u8) (hx : s.ev x = some (.slice q)) (hr : Rel X N s w a wa) (hd : ∀ t, o.dst = some t → t < N)
    (h : s.look w fun s w => BytesStr w q fun b => K (s.putD o.dst (.str b)) w) : o.wp X.P a wa (OpPost X N K s o a) Q := by
  obtain ⟨s', w', h1, h2, h3, e1, e2, e3, _⟩ := look_sound h hr
  have h1' : BytesStr wa q fun b => K (s'.putD o.dst (.str b)) w' := by
    obtain ⟨l, g1, g2, g3, g4⟩ := h1
    exact ⟨l, g1, g2, fun i hi => h3.cell (g3 i hi) (by simp), g4⟩
  obtain ⟨b, hF, hb⟩ := bytesStr_run (P := X.P) h1'
  have t1 := ok.ty src; rw [hs] at t1; simp only [tyOK] at t1
  have t2 := ok.ty dst; rw [hdt] at t2; simp only [tyOK] at t2
  have t3 := ok.ty e; rw [he] at t3; simp only [tyOK] at t3
  have hxv := hr.ev x _ hx
  simp only [RelV, SV.enc] at hxv
  have hrun : (execOp a.eval o).run X.P wa = .ok (.value (.string b)) wa := by
    simp only [Sl.val] at hxv hb
    simp [execOp, hop, hxv, run_convert_bytes_string wa src dst e _ _ _ t1 t3 t2, hb]
  unfold Oper.wp
  rw [hrun, Oper.upon_value]
  exact ⟨_, w', hF, h2.putD hd rfl (fun _ _ _ e => by cases e), by rw [putD_nb, e3]; exact Nat.le_refl _, fun _ _ i _ => by rw [putD_bx, e2], _, rfl⟩

include ok in
theorem mark_wp {t e : Nat} {x : Operand} {q : Sl} (hop : o.op = .convert t t x) (hs : X.T t = .slice e) (he : X.T e = .int .u8) (hx : s.ev x = some (.slice q)) (hr : Rel X N s w a wa) (hd : ∀ t, o.dst = some t → t < N)
    (h : s.flush w fun s w => MarkStr w q s.live fun w => K (s.putD o.dst (.slice q)) w) : o.wp X.P a wa (OpPost X N K s o a) Q := by
  have h' := flush_sound h hr
  rw [live_clean] at h'
  obtain ⟨ad, hq, c, e', hb, hn, hK⟩ := deref_iff.1 h'
  have t1 := ok.ty t; rw [hs] at t1; simp only [tyOK] at t1
  have t3 := ok.ty e; rw [he] at t3; simp only [tyOK] at t3
  have hxv := hr.ev x _ hx
  simp only [RelV, SV.enc] at hxv
  obtain ⟨p, len, cap⟩ := q
  simp only at hq
  subst hq
  simp only [Sl.val] at hxv
  have hlt : ad.block < wa.heap.size := (Array.getElem?_eq_some_iff.1 hb).1
  have hw : ∀ k, k ≠ ad.block → (wa.freeze { block := ad.block, off := c.size } 1).heap[k]? = wa.heap[k]? := by
    intro k hk
    simp [World.freeze, Array.getElem?_modify, hk.symm]
  have hw2 : (wa.freeze { block := ad.block, off := c.size } 1).heap[ad.block]? = some (.cells c e' (c.size, c.size + 1)) := by
    have hv : wa.heap[ad.block] = .cells c e' (0, 0) := (Array.getElem?_eq_some_iff.1 hb).2
    simp [World.freeze, Array.getElem?_modify, hb]
  have hsh : wa.shape? ad.block = some (e', c.size) := by simp [World.shape?, hb]
  have hrun : (execOp a.eval o).run X.P wa = .ok (.value (.slice (some ad) len cap)) (wa.freeze { block := ad.block, off := c.size } 1) := by
    simp [execOp, hop, hxv, convert, run_underlying t1, run_underlying t3, markStringish, hsh]
  have hu : Upd [ad.block] [] wa (wa.freeze { block := ad.block, off := c.size } 1) :=
    ⟨by simp [World.freeze], by simp [World.freeze], by simp [World.freeze], by simp [World.freeze], fun k hk hm => hw k (by simpa using hm), by simp⟩
  unfold Oper.wp
  rw [hrun, Oper.upon_value]
  exact world_post hr.clean hd rfl (fun _ _ => rfl) rfl rfl (fun b hb' => hw b (by rintro rfl; exact hn hb')) (hK _ hu hw2)

include ok in
theorem makeSlice_wp {t e : Nat} {x y : Operand} {l m : Int} (hop : o.op = .makeSlice t x y) (ht : X.T t = .slice e) (hx : s.ev x = some (.int .i64 l)) (hy : s.ev y = some (.int .i64 m)) (hf : isFull (X.T e) = true) (hr : Rel X N s w a wa) (hd : ∀ t, o.dst = some t → t < N)
    (h : Need (decide (0 ≤ l) && decide (l ≤ m) && decide (m ≤ 281474976710656) && decide ((X.B e : Int) * m ≤ 281474976710656)) (s.newRow w (zerosOf (X.T e) m.toNat) e fun s b w => K (s.putD o.dst (.slice ⟨some ⟨b, 0, none⟩, l.toNat, m.toNat⟩)) w)) : o.wp X.P a wa (OpPost X N K s o a) Q := by
  simp only [Need_iff, Bool.and_eq_true, decide_eq_true_eq] at h
  obtain ⟨⟨⟨⟨h0, hlm⟩, hm48⟩, hb⟩, hN⟩ := h
  obtain ⟨hK, hrel⟩ := newRow_sound hN hr
  have hT := ok.ty t; rw [ht] at hT; simp only [tyOK] at hT
  have hxv := hr.ev x _ hx
  have hyv := hr.ev y _ hy
  simp only [RelV, SV.enc] at hxv hyv
  obtain ⟨z, i, hz1, hD, hi, hi1, hi2, hi3, hzs1, hzs2, hzs3⟩ := full_zero ok hf
  have hwl : IntKind.i64.wrap l = l := by unfold IntKind.wrap; simp [IntKind.bits, IntKind.signed]; omega
  have hwm : IntKind.i64.wrap m = m := by unfold IntKind.wrap; simp [IntKind.bits, IntKind.signed]; omega
  have hz : ((Array.range (m.toNat * (X.T e).size)).map fun i => z.cells.toArray[i % z.cells.toArray.size]!) = (zerosOf (X.T e) m.toNat).toArray := by
    rw [zerosOf_eq hz1, ← flat_rep z.cells m.toNat, ← hzs3]
    apply Array.ext'
    simp [Array.toList_map]
  have e1 : ¬ (m < 0) := by omega
  have e2 : ¬ (l < 0) := by omega
  have e3 : ¬ (l > m) := by omega
  have e4 : ¬ (281474976710656 < (X.B e : Int) * m) := by omega
  have hrun : (execOp a.eval o).run X.P wa = .ok (.value (.slice (some ⟨wa.heap.size, 0, none⟩) l.toNat m.toNat)) (wa.alloc (.cells (zerosOf (X.T e) m.toNat).toArray e)) := by
    by_cases h00 : m.toNat * (X.T e).size = 0
    · have hnil : zerosOf (X.T e) m.toNat = [] := by
        rw [zerosOf_eq hz1]
        rw [← hzs3] at h00
        apply List.eq_nil_of_length_eq_zero
        simp [List.length_flatten, h00]
      rw [hnil]
      have hr0 : Array.range (m.toNat * (X.T e).size) = #[] := by rw [h00]; rfl
      have hr1 : Array.range 0 = #[] := rfl
      simp [execOp, hop, hxv, hyv, hr0, hr1, Instr.makeSlice, run_underlying hT, asInt, asIntOf, typeInfo, hi, hi2, hwl, hwm, e1, e2, e3, e4, sizeOf_run ok e hD, h00, newRow]
    · simp [execOp, hop, hxv, hyv, Instr.makeSlice, run_underlying hT, asInt, asIntOf, typeInfo, hi, hi2, hwl, hwm, e1, e2, e3, e4, sizeOf_run ok e hD, h00, newRow, zeroValue, hi3, hzs2]
      simp at hz
      rw [hz]
  unfold Oper.wp
  rw [hrun, Oper.upon_value]
  exact ⟨_, _, hK, hrel.putD hd rfl (fun _ _ _ e => by cases e), by rw [putD_nb]; exact Nat.le_refl _, fun _ _ i _ => by rw [putD_bx]; rfl, _, rfl⟩
end
end Go.Vc
end

section
namespace Go.Vc
open Go.RowKit (Below)
set_option linter.unusedSimpArgs false
set_option linter.unusedVariables false
set_option autoImplicit false

section
variable {X : Tab} (ok : TabOK X) {N : Nat} {s : St} {w : World} {a : Act} {wa : World} {o : Oper} {K : St → World → Prop} {Q : Exit → Act → World → Prop}

theorem path_nil (t : Ty) : PathAt t [] 0 t := by cases t <;> exact ⟨rfl, rfl⟩
/-- a new local struct -/
theorem box_post (hr : Rel X N s w a wa) (hd : ∀ t, o.dst = some t → t < N) {t : Nat} {c : SV} (hc : c.shape (X.T t) = true) {s0 : St} (h0 : s0.nb = s.nb) (hbx : escapes s0 o = false → s.bx = s0.bx)
    (h : ∀ b, K ((s.newBox b t c).putD o.dst (.lptr s.nb 0 [])) w) : OpPost X N K s0 o a (a.put o.dst (.pointer (some ⟨wa.heap.size, 0, none⟩))) (wa.alloc (.cells c.cells.toArray t)) := by
  have hb := hr.newBox t c hc
  refine ⟨_, w, h wa.heap.size, hb.putD hd ?_ ?_, by rw [putD_nb, h0]; simp [St.newBox], fun _ he i hi => ?_, _, rfl⟩
  · intro b' t' c' hbx'
    have : (s.newBox wa.heap.size t c).bx s.nb = some (.box wa.heap.size t c) := by simp [St.newBox, St.putB]
    rw [this] at hbx'
    cases hbx'
    exact ⟨rfl, _, path_nil _⟩
  · intro id off p e
    cases e
    simp [St.newBox]
  · rw [putD_bx]
    have hne : Nat.beq i s.nb = false := nbeq_false.2 (by omega)
    simp only [St.newBox, St.putB, hne]
    exact congrFun (hbx he) i

include ok in
theorem alloc_wp {t : Nat} (hop : o.op = .alloc t) (hr : Rel X N s w a wa) (hd : ∀ t, o.dst = some t → t < N) (h : ifSome ((X.T t).zero) fun z => ∀ b, K ((s.newBox b t z).putD o.dst (.lptr s.nb 0 [])) w) : o.wp X.P a wa (OpPost X N K s o a) Q := by
  obtain ⟨z, hz, hK⟩ := ifSome_iff.1 h
  have hs := zero_shape hz
  have hD : isData (X.T t) = true := by cases hT : X.T t <;> rw [hT] at hz <;> first | rfl | simp [Ty.zero] at hz
  obtain ⟨i, h1, h2, h3, h4⟩ := ok.info t hD
  have hrun : (execOp a.eval o).run X.P wa = .ok (.value (.pointer (some ⟨wa.heap.size, 0, none⟩))) (wa.alloc (.cells z.cells.toArray t)) := by
    simp [execOp, hop, Instr.alloc, zeroValue, typeInfo, h1, h4 z hz, newVar, newRow, enc_cells hs]
  unfold Oper.wp
  rw [hrun, Oper.upon_value]
  exact box_post hr hd hs rfl (fun _ => rfl) hK

theorem box_wp {t : Nat} {x : Operand} (hop : o.op = .box t x) (hr : Rel X N s w a wa) (hd : ∀ t, o.dst = some t → t < N) {v0 : SV} (hx0 : s.ev x = some v0)
    (h : s.esc w [v0] fun s w => ifSome (s.ev x) fun v => match v.shape (X.T t) with
      | true => ∀ b, K ((s.newBox b t v).putD o.dst (.lptr s.nb 0 [])) w
      | false => False) : o.wp X.P a wa (OpPost X N K s o a) Q := by
  obtain ⟨s', w', h1, h2, h3, h4, h5⟩ := esc_sound h hr
  obtain ⟨v, hv, h6⟩ := ifSome_iff.1 h1
  split at h6
  · rename_i hs
    have hxv := h2.ev x v hv
    rw [relv_shape hs] at hxv
    have hrun : (execOp a.eval o).run X.P wa = .ok (.value (.pointer (some ⟨wa.heap.size, 0, none⟩))) (wa.alloc (.cells v.cells.toArray t)) := by
      simp [execOp, hop, Instr.box, newVar, newRow, hxv, enc_cells hs]
    unfold Oper.wp
    rw [hrun, Oper.upon_value]
    refine box_post h2 hd hs h3.symm (fun he => ?_) h6
    have : lptrs [v0] = [] := by
      simp [escapes, hop, hx0] at he
      exact plain_lptrs (by simp [allPlain, he])
    rw [(h4 this).1]
  · cases h6

include ok in
theorem store_wp {t : Nat} {ad x : Operand} (hop : o.op = .store t ad x) (hr : Rel X N s w a wa) (hd : ∀ t, o.dst = some t → t < N) {v0 : SV} (hx0 : s.ev x = some v0)
    (h : s.esc w [v0] fun s w => ifSome (s.ev x) fun v =>
      match v.shape (X.T t) with
      | true => match s.ev ad with
        | some (.lptr id _ p) => match s.bx id with
          | some (.box b bt c) => match lIs X s id p t with
            | true => ifSome (setPath c p v) fun c' => K ((s.putB id (some (.box b bt c'))).touch id b) w
            | false => False
          | _ => False
        | some (.ptr p) => deref p fun a => s.flush w fun s w => Store w a v.cells s.live fun w1 => K s w1
        | _ => False
      | false => False) (hdst : o.dst = none) : o.wp X.P a wa (OpPost X N K s o a) Q := by
  obtain ⟨s', w', h1, h2, h3, h4, h5⟩ := esc_sound h hr
  obtain ⟨v, hv, h6⟩ := ifSome_iff.1 h1
  have hpl : lstore s o = false → s' = s := fun hf => by
    simp only [lstore, hop] at hf
    split at hf
    · rw [hx0] at hf
      exact (h4 (plain_lptrs (by simp [allPlain]; simpa using hf))).1
    · cases hf
  split at h6
  case h_2 => cases h6
  rename_i hs
  have hxv := h2.ev x v hv
  rw [relv_shape hs] at hxv
  have hD : isData (X.T t) = true := by cases hT : X.T t <;> rw [hT] at hs <;> first | rfl | (cases v <;> simp [SV.shape] at hs)
  have hsz := sizeOf_run ok t hD wa
  have hone := cells_one hs
  have hvar : ∀ q : Addr, (∀ i, i < v.cells.length → (wa.cell? (q.add i)).isSome = true ∧ wa.frozen? (q.add i) = false) → a.eval ad = .pointer (some q) → (execOp a.eval o).run X.P wa = .ok .skip (wa.setCells q.block q.off v.cells) := by
    intro q hq hq2
    have := store_run (P := X.P) hone hq
    simp [execOp, hop, Instr.storeAt, Instr.sureAddr, storeVar, hq2, hxv, enc_cells hs, hsz, shape_size hs, this]
  have hput : a.put o.dst undef = a := by rw [hdst]; rfl
  split at h6
  · rename_i id off p e1
    have hav := h2.ev ad _ e1
    split at h6
    · rename_i b bt c hb
      split at h6
      · rename_i hl
        obtain ⟨c', hc', hK⟩ := ifSome_iff.1 h6
        obtain ⟨b', bt', c'', g1, g2, g3⟩ := lIs_path hav hl
        rw [hb] at g1
        cases g1
        obtain ⟨k1, k2, k3⟩ := h2.bx id b bt c hb
        obtain ⟨y, hy, hys, pre, post, m1, m2, m3⟩ := path_get k3 g3
        obtain ⟨n1, n2⟩ := m3 v c' hs hc'
        have hadd : ∀ j, (⟨b, off, none⟩ : Addr).add j = ⟨b, off + j, none⟩ := fun j => by unfold Addr.add; split <;> simp_all
        have hlen : y.cells.length = v.cells.length := by rw [shape_size hys, shape_size hs]
        have hrun := hvar ⟨b, off, none⟩ (fun i hi => by
          rw [hadd]
          refine ⟨?_, by simp [World.frozen?, k2]⟩
          rw [cell_of_row wa b (off + i) _ bt (0, 0) k2, m1]
          simp; omega) g2
        unfold Oper.wp
        rw [hrun, Oper.upon_skip, hput]
        have hrow := setCells_at b bt (0, 0) v.cells pre y.cells post wa (by rw [← m1]; exact k2) hlen
        rw [m2, ← n2] at hrow
        have hset := h2.setBox hb n1 hrow (fun k hk => setCells_heap _ _ _ _ _ hk) (setCells_size _ _ _ _) (setCells_os _ _ _ _).1 (setCells_os _ _ _ _).2.1 (setCells_os _ _ _ _).2.2
        refine ⟨_, w', hK, hset, ?_, (fun hns => by
          have he := hpl hns
          simp only [lstore, hop] at hns
          rw [← he, e1] at hns
          cases hns), undef, hput.symm⟩
        rw [← h3]
        unfold St.touch
        split <;> exact Nat.le_refl _
      · cases h6
    · cases h6
  · rename_i p e1
    have hav := h2.ev ad _ e1
    simp only [RelV, SV.enc] at hav
    obtain ⟨q, rfl, h7⟩ := deref_iff.1 h6
    obtain ⟨g1, g2, g3⟩ := flush_sound h7 h2
    have hrun := hvar q g1 hav
    unfold Oper.wp
    rw [hrun, Oper.upon_skip, hput]
    refine ⟨_, _, g3, ?_, by rw [← h3]; exact Nat.le_refl _, (fun hns _ i _ => by rw [hpl hns]; rfl), undef, hput.symm⟩
    exact h2.clean.world (fun i b t c hb => setCells_heap _ _ _ _ _ (by
      rintro rfl
      rw [live_clean] at g2
      exact g2 (live_of hb (h2.bx i _ t c hb).1)))
  · cases h6

include ok in
theorem load_wp {t : Nat} {x : Operand} (hop : o.op = .load t x) (hr : Rel X N s w a wa) (hd : ∀ t, o.dst = some t → t < N)
    (h : match s.ev x with
    | some (.ptr p) => deref p fun a => s.look w fun s w => loadVC a w (X.T t) 0 fun v => K (s.putD o.dst v) w
    | _ => pureVC X s o fun v => K (s.putD o.dst v) w) : o.wp X.P a wa (OpPost X N K s o a) Q := by
  split at h
  · rename_i p e1
    have hxv := hr.ev x _ e1
    simp only [RelV, SV.enc] at hxv
    obtain ⟨ad, rfl, h1⟩ := deref_iff.1 h
    obtain ⟨s', w', h2, h3, h4, e1, e2, e3, _⟩ := look_sound h1 hr
    obtain ⟨v, h5, h6, h7⟩ := mem_load ok h2 (loadVC_data h2) (fun b u hu => h4.cell hu (by simp))
    have hrun : (execOp a.eval o).run X.P wa = .ok (.value v.enc) wa := by simp [execOp, hop, hxv, h7]
    unfold Oper.wp
    rw [hrun, Oper.upon_value]
    exact ⟨_, w', h6, h3.putD hd ((relv_shape h5).2 rfl) (fun id off p e => by subst e; simp [SV.shape] at h5), by rw [putD_nb, e3]; exact Nat.le_refl _, fun _ _ i _ => by rw [putD_bx, e2], _, rfl⟩
  · unfold pureVC at h
    simp only [hop] at h
    split at h
    · rename_i id off p e1
      split at h
      · rename_i hl
        have hxv := hr.ev x _ e1
        obtain ⟨b, bt, c, g1, g2, g3⟩ := lIs_path hxv hl
        obtain ⟨_, k2, k3⟩ := hr.bx id b bt c g1
        have hD : isData (X.T t) = true := by
          obtain ⟨y, hy, hys, _⟩ := path_get k3 g3
          cases hT : X.T t <;> rw [hT] at hys <;> first | rfl | (cases y <;> simp [SV.shape] at hys)
        obtain ⟨v, h5, h6, h7⟩ := box_load (F := fun v => K (s.putD o.dst v) w) ok (fun b t c hb => (hr.bx _ b t c hb).2) hxv hl hD h
        have hrun : (execOp a.eval o).run X.P wa = .ok (.value v.enc) wa := by simp [execOp, hop, h7]
        exact value_wp hr hd ((relv_shape h5).2 rfl) (fun id off p e => by subst e; simp [SV.shape] at h5) hrun h6
      · cases h
    · cases h

include ok in
theorem buildSlice_wp {t e n : Nat} {parts : Array (Nat × Operand)} {l0 : List (Nat × SV)} (hop : o.op = .buildSlice t n parts) (ht : X.T t = .slice e) (hl0 : s.evParts parts.toList = some l0) (hr : Rel X N s w a wa) (hd : ∀ t, o.dst = some t → t < N)
    (h : s.esc w (l0.map (·.2)) fun s w => match s.evParts parts.toList with
      | some l => match (Ty.struct true (List.replicate n (X.T e))).zero with
        | some z => ifSome (buildSV (.struct true (List.replicate n (X.T e))) z l) fun c => s.newRow w c.cells e fun s b w => K (s.putD o.dst (.slice ⟨some ⟨b, 0, none⟩, n, n⟩)) w
        | none => False
      | none => False) (hn : n * (X.T e).size ≤ 16777216) (hf : isFull (X.T e) = true) : o.wp X.P a wa (OpPost X N K s o a) Q := by
  obtain ⟨s', w', h1, h2, h3, h4, h5⟩ := esc_sound h hr
  split at h1
  case h_2 => cases h1
  rename_i l hl
  split at h1
  case h_2 => cases h1
  rename_i z hz
  obtain ⟨c, hc, h6⟩ := ifSome_iff.1 h1
  obtain ⟨hK, hrel⟩ := newRow_sound h6 h2
  have hzs := zero_shape hz
  have hT := ok.ty t; rw [ht] at hT; simp only [tyOK] at hT
  obtain ⟨ze, i, hz1, hD, hi, hi1, hi2, hi3, hzs1, hzs2, hzs3⟩ := full_zero ok hf
  have hpl := evParts_sound h2.ev hl (buildSV_plain hc)
  obtain ⟨hcs, hfill⟩ := fill_sound (place := fun i => some (i * (X.T e).size, (X.T e).size)) (t := .struct true (List.replicate n (X.T e))) (by
    intro i u hu
    simp only [partTy] at hu
    have hin : i < n := by
      rw [nth_eq] at hu
      have := (List.getElem?_eq_some_iff.1 hu).1
      simpa using this
    rw [nth_replicate _ _ _ hin] at hu
    obtain rfl : X.T e = u := by simpa using hu
    simp [placeOff, off_replicate _ _ _ (Nat.le_of_lt hin)]) hzs hc
  have hzc : z.cells = (List.replicate n ze.cells).flatten := by
    simp only [Ty.zero] at hz
    cases hzz : Ty.zeros (List.replicate n (X.T e)) with
    | none => simp [hzz] at hz
    | some m =>
      simp [hzz] at hz
      subst hz
      simp only [SV.cells, cellsL_eq]
      have : m = List.replicate n ze := by
        clear hpl hfill hcs hzs h6 hc hK hrel h hn hop h1
        induction n generalizing m with
        | zero => simp [Ty.zeros] at hzz; subst hzz; rfl
        | succ k ih =>
          simp only [List.replicate_succ, Ty.zeros, hz1] at hzz
          cases hk : Ty.zeros (List.replicate k (X.T e)) with
          | none => simp [hk] at hzz
          | some m' =>
            simp [hk] at hzz
            subst hzz
            rw [ih m' hk]; rfl
      subst this
      simp [List.flatMap_replicate]
  have hzz : ((Array.range (n * (X.T e).size)).map fun i => ze.cells.toArray[i % ze.cells.toArray.size]!) = z.cells.toArray := by
    rw [hzc, ← flat_rep ze.cells n, ← hzs3]
    apply Array.ext'
    simp [Array.toList_map]
  have hm : (parts.map fun (p : Nat × Operand) => (p.1, a.eval p.2)).toList = l.map fun p => (p.1, p.2.enc) := by rw [← hpl]; simp
  have hrun : (execOp a.eval o).run X.P wa = .ok (.value (.slice (some ⟨wa.heap.size, 0, none⟩) n n)) (wa.alloc (.cells c.cells.toArray e)) := by
    have e0 : ¬ (16777216 < n * (X.T e).size) := by omega
    have hexec : (execOp a.eval o) = (do pure (.value (← Instr.buildSlice t n (parts.map fun (p : Nat × Operand) => (p.1, a.eval p.2))))) := by simp only [execOp, hop]
    rw [hexec]
    by_cases h00 : n * (X.T e).size = 0
    · have hz0 : z.cells = [] := by
        rw [hzc]
        rw [← hzs3] at h00
        apply List.eq_nil_of_length_eq_zero
        simp [List.length_flatten, h00]
      have hr0 : Array.range (n * (X.T e).size) = #[] := by rw [h00]; rfl
      rw [hz0] at hfill
      simp only [Instr.buildSlice, Sem.run_bind, run_underlying hT, Result.andThen_ok, sizeOf_run ok e hD, hm]
      have hr1 : Array.map (fun _ => (default : Value)) (Array.range 0) = #[] := by rw [show Array.range 0 = #[] from rfl]; simp
      simp [e0, h00, hr0, hr1, hfill, newRow]
    · simp only [Instr.buildSlice, Sem.run_bind, run_underlying hT, Result.andThen_ok, sizeOf_run ok e hD, hm]
      rw [if_neg h00]
      have e0' : ¬ (n * (X.T e).size > 2 ^ 24) := by omega
      rw [if_neg e0']
      simp only [Sem.run_bind, zeroValue, typeInfo, run_program, Result.andThen_ok, hi, Sem.run_pure, hi3, hzs2]
      simp only [hzz, hfill, newRow, Sem.run_bind, run_newObj_alloc, Result.andThen_ok, Sem.run_pure]
  unfold Oper.wp
  rw [hrun, Oper.upon_value]
  refine ⟨_, _, hK, hrel.putD hd rfl (fun _ _ _ e => by cases e), by rw [putD_nb, ← h3]; exact Nat.le_refl _, fun _ he i _ => ?_, _, rfl⟩
  rw [putD_bx]
  have : lptrs (l0.map (·.2)) = [] := by
    simp [escapes, hop, hl0] at he
    exact plain_lptrs he
  rw [(h4 this).1]
  rfl
end
end Go.Vc
end

section
namespace Go.Vc
open Go.RowKit (Below)
open Go.ChangeShapes Go.WideShapes Go.MapKept Go.ChangeMaps
set_option linter.unusedSimpArgs false
set_option linter.unusedVariables false
set_option autoImplicit false

section
variable {X : Tab} (ok : TabOK X) {N : Nat} {s : St} {w : World} {a : Act} {wa : World} {o : Oper} {K : St → World → Prop} {Q : Exit → Act → World → Prop}

theorem derefN_iff {p : Option Nat} {F : Nat → Prop} : derefN p F ↔ ∃ a, p = some a ∧ F a := by cases p <;> simp [derefN]

theorem newMap0_sound {F : St → Nat → World → Prop} (h : s.newMap0 w F) (hr : Rel X N s w a wa) :
    F s.clean wa.heap.size (wa.alloc (.map #[] 0)) ∧ Rel X N s.clean (wa.alloc (.map #[] 0)) a (wa.alloc (.map #[] 0)) := by
  have hu := hr.upd
  have hsz := hu.size
  refine ⟨(h _ _ ⟨hu.os, hu.tape, hu.output, by simp; omega, fun k hk hm => ?_, fun b hb => ?_⟩ ⟨_, _, heap_alloc_new wa _, rfl, by simp, by simp⟩), ?_⟩
  · rw [Below.heap_alloc wa _ k (by omega)]; exact hu.keep k hk hm
  · rcases List.mem_cons.1 hb with rfl | hb
    · simp; omega
    · have := hu.news b hb; simp; omega
  · exact hr.clean.world (fun i b t c hb => Below.heap_alloc wa _ b (Array.getElem?_eq_some_iff.1 (hr.bx i b t c hb).2.1).1)
theorem newMap_sound {F : St → Nat → World → Prop} (h : s.newMap w F) (hr : Rel X N s w a wa) :
    F s.clean wa.heap.size (wa.alloc (.map #[] 0)) ∧ Rel X N s.clean (wa.alloc (.map #[] 0)) a (wa.alloc (.map #[] 0)) := by
  unfold St.newMap at h
  split at h
  · exact newMap0_sound h hr
  · exact newMap0_sound (s := s.clean) (flush_sound h hr) hr.clean

theorem makeMap_wp {t : Nat} (hop : o.op = .makeMap t none) (hr : Rel X N s w a wa) (hd : ∀ t, o.dst = some t → t < N)
    (h : s.newMap w fun s b w => K (s.putD o.dst (.map (some b))) w) : o.wp X.P a wa (OpPost X N K s o a) Q := by
  obtain ⟨hK, hrel⟩ := newMap_sound h hr
  have hrun : (execOp a.eval o).run X.P wa = .ok (.value (.map (some wa.heap.size))) (wa.alloc (.map #[] 0)) := by
    simp [execOp, hop, Instr.makeMap, Result.andThen]
  unfold Oper.wp
  rw [hrun, Oper.upon_value]
  exact ⟨_, _, hK, hrel.putD hd rfl (fun _ _ _ e => by cases e), by rw [putD_nb]; exact Nat.le_refl _, fun _ _ i _ => by rw [putD_bx]; rfl, _, rfl⟩

theorem mapl_key {r : Nat} {l : List (Value × SV)} {es : Array MapEntry} (h : es.toList.map (fun e => (e.key, e.val)) = l.map fun p => (p.1, p.2.enc)) :
    (∀ e ∈ es.toList, ∃ p ∈ l, p.1 = e.key ∧ p.2.enc = e.val) ∧ ∀ p ∈ l, ∃ e ∈ es.toList, e.key = p.1 := by
  refine ⟨fun e he => ?_, fun p hp => ?_⟩
  · have : (e.key, e.val) ∈ l.map fun p => (p.1, p.2.enc) := by rw [← h]; exact List.mem_map.2 ⟨e, he, rfl⟩
    obtain ⟨p, hp, hpe⟩ := List.mem_map.1 this
    exact ⟨p, hp, congrArg Prod.fst hpe, congrArg Prod.snd hpe⟩
  · have : (p.1, p.2.enc) ∈ es.toList.map (fun e => (e.key, e.val)) := by rw [h]; exact List.mem_map.2 ⟨p, hp, rfl⟩
    obtain ⟨e, he, hpe⟩ := List.mem_map.1 this
    exact ⟨e, he, congrArg Prod.fst hpe⟩

theorem all_sh : ∀ (t : Ty) (F : SV → Prop), t.all F → ∀ x, x.shape t = true → F x := by
  intro t
  induction t using Ty.rec (motive_2 := fun ts => ∀ (F : List SV → Prop), Ty.alls ts F → ∀ l, SV.shapes l ts = true → F l) with
  | int k => intro F h x hx; cases x <;> simp [SV.shape] at hx; obtain rfl := ksame_eq hx; exact h _
  | bool => intro F h x hx; cases x <;> simp [SV.shape] at hx; exact h _
  | str => intro F h x hx; cases x <;> simp [SV.shape] at hx; exact h _
  | ptr e => intro F h x hx; cases x <;> simp [SV.shape] at hx; exact h _
  | slice e => intro F h x hx; cases x <;> simp [SV.shape] at hx; exact h _
  | map => intro F h x hx; cases x <;> simp [SV.shape] at hx; exact h _
  | arr k n => intro F h x hx; cases x <;> simp [SV.shape] at hx; obtain ⟨h1, h2⟩ := hx; obtain rfl := ksame_eq h1; subst h2; exact h _
  | struct b ts ih => intro F h x hx; cases x <;> simp only [SV.shape, Bool.false_eq_true] at hx; exact ih (fun l => F (.struct l)) h _ hx
  | tuple ts ih => intro F h x hx; cases x <;> simp [SV.shape] at hx
  | other => intro F h x hx; cases x <;> simp [SV.shape] at hx
  | nil => rename_i F h l hl; cases l <;> simp [SV.shapes] at hl; exact h
  | cons t ts ih1 ih2 =>
    rename_i F h l hl
    cases l with
    | nil => simp [SV.shapes] at hl
    | cons x l =>
      simp only [SV.shapes, Bool.and_eq_true] at hl
      exact ih2 _ (ih1 _ h x hl.1) l hl.2

include ok in
theorem mapGet_sound {t r : Nat} {k z : SV} {F : SV → Bool → Prop} (h : mapGet X t r k z wa F) (hz : (X.T (X.M t).2).zero = some z) (hD : isData (X.T (X.M t).2) = true) :
    ∃ v b, (∀ c, (Instr.lookup t (.map (some r)) k.enc c).run X.P wa = .ok (if c then .tuple #[v.enc, .bool b] else v.enc) wa) ∧ F v b ∧ plain v = true := by
  obtain ⟨hu, l, ⟨es, c, hb, hl, _⟩, ⟨KL, ⟨lx, hx⟩, hk⟩, hsh, hF⟩ := h
  obtain ⟨m1, m2⟩ := mapl_key (r := r) hl
  have hkeys : ∀ e ∈ es.toList, ∃ l, keyOf X.P (X.M t).1 e.key = some l := fun e he => by
    obtain ⟨p, hp, hpe, _⟩ := m1 e he
    rw [← hpe]; exact hk p hp
  have hall : ∀ v, v.shape (X.T (X.M t).2) = true → ∀ b, Found l k.enc z v b → F v b := fun v hv => all_sh _ _ hF v hv
  obtain ⟨i, hi, hi1, hi2, hi3⟩ := ok.info _ hD
  have hzr : (zeroValue (X.M t).2).run X.P wa = .ok z.enc wa := by
    simp [zeroValue, typeInfo, hi, hi3 z hz]
  rcases KL.find wa hx es.toList hkeys with ⟨h1, h2⟩ | ⟨j, e0, h1, h2, h3⟩
  · have hzs := zero_shape hz
    refine ⟨z, false, fun c => by cases c <;> simp [Instr.lookup, run_underlying hu, MapKept.run_getObj_map hb, KL.check wa _ hx, h1, hzr, Result.andThen], hall z hzs false (.inr ⟨rfl, fun p hp he => ?_, rfl⟩), shape_plain hzs⟩
    obtain ⟨e, he', hpe⟩ := m2 p hp
    exact h2 e he' (hpe.trans he)
  · obtain ⟨p, hp, hpe, hpv⟩ := m1 e0 (List.mem_of_getElem? h2)
    refine ⟨p.2, true, fun c => by cases c <;> simp [Instr.lookup, run_underlying hu, MapKept.run_getObj_map hb, KL.check wa _ hx, h1, Result.andThen, hpv], hall p.2 (hsh p hp) true (.inl ⟨rfl, p, hp, hpe.trans h3, rfl⟩), shape_plain (hsh p hp)⟩

include ok in
theorem lookup_wp {t r : Nat} {m x : Operand} {c : Bool} {k z : SV} (hop : o.op = .lookup t m x c) (hm : s.ev m = some (.map (some r))) (hx : s.ev x = some k) (hp : plain k = true) (hz : (X.T (X.M t).2).zero = some z) (hD : isData (X.T (X.M t).2) = true)
    (hr : Rel X N s w a wa) (hd : ∀ t, o.dst = some t → t < N)
    (h : s.flush w fun s w => mapGet X t r k z w fun v b => K (s.putD o.dst (lookRes c v b)) w) : o.wp X.P a wa (OpPost X N K s o a) Q := by
  have h' := flush_sound h hr
  obtain ⟨v, b, hrun, hK, hpl⟩ := mapGet_sound ok h' hz hD
  have hmv := hr.ev m _ hm
  have hxv := (relv_plain hp).1 (hr.ev x _ hx)
  simp only [RelV, SV.enc] at hmv
  unfold Oper.wp
  cases c with
  | true =>
    simp [execOp, hop, hmv, hxv, hrun, Result.andThen]
    exact world_post (sv := .tuple [v, .bool b]) hr.clean hd rfl (fun _ _ => rfl) rfl (by simp [SV.enc, SV.encL]) (fun _ _ => rfl) hK
  | false =>
    simp [execOp, hop, hmv, hxv, hrun, Result.andThen]
    exact world_post (sv := v) hr.clean hd rfl (fun _ _ => rfl) hpl rfl (fun _ _ => rfl) hK
theorem mapPut_sound {t r : Nat} {k y : SV} {bs : List Nat} {F : World → Prop} (h : mapPut X t r k y bs wa F) :
    ∃ w1, (Instr.mapUpdate t (.map (some r)) k.enc y.enc).run X.P wa = .ok () w1 ∧ F w1 ∧ ∀ b ∈ bs, w1.heap[b]? = wa.heap[b]? := by
  obtain ⟨hu, hn, l, ⟨es, c, hb, hl, hpw, hborn⟩, ⟨KL, ⟨lx, hx⟩, hk⟩, hF⟩ := h
  obtain ⟨m1, m2⟩ := mapl_key (r := r) hl
  have hkeys : ∀ e ∈ es.toList, ∃ l, keyOf X.P (X.M t).1 e.key = some l := fun e he => by
    obtain ⟨p, hp, hpe, _⟩ := m1 e he
    rw [← hpe]; exact hk p hp
  have hlt : r < wa.heap.size := (Array.getElem?_eq_some_iff.1 hb).1
  have upd : ∀ es' c', Upd [r] [] wa (setBlock wa r (.map es' c')) := fun es' c' =>
    ⟨rfl, rfl, rfl, by simp [setBlock], fun j hj hm => heap_setBlock_other hb _ (by simpa using hm), by simp⟩
  have oth : ∀ es' c', ∀ b ∈ bs, (setBlock wa r (.map es' c')).heap[b]? = wa.heap[b]? := fun es' c' b hb' => heap_setBlock_other hb _ (by rintro rfl; exact hn hb')
  rcases KL.find wa hx es.toList hkeys with ⟨h1, h2⟩ | ⟨j, e0, h1, h2, h3⟩
  · refine ⟨setBlock wa r (.map (es.push ⟨k.enc, y.enc, c⟩) (c + 1)), ?_, ?_, oth _ _⟩
    · simp [Instr.mapUpdate, run_underlying hu, MapKept.run_getObj_map hb, KL.check wa false hx, h1, MapKept.run_setObj_map _ hb, Result.andThen, setBlock]
    · refine hF (l ++ [(k.enc, y)]) _ (.inl ⟨fun p hp he => ?_, rfl⟩) (upd _ _) ⟨_, _, heap_setBlock_same hb _, ?_, ?_, ?_⟩
      · obtain ⟨e, he', hpe⟩ := m2 p hp
        exact h2 e he' (hpe.trans he)
      · simp [hl]
      · rw [Array.toList_push, List.pairwise_append]
        exact ⟨hpw, by simp, fun x hx y hy => by rw [List.mem_singleton] at hy; subst hy; have := hborn x hx; simp; omega⟩
      · intro e he
        rw [Array.toList_push] at he
        rcases List.mem_append.1 he with he | he
        · have := hborn e he; omega
        · rw [List.mem_singleton] at he; subst he; simp
  · have hjl : j < es.toList.length := (List.getElem?_eq_some_iff.1 h2).1
    have hlen : es.toList.length = l.length := by have := congrArg List.length hl; simpa using this
    have hj : es[j]? = some e0 := by rw [← Array.getElem?_toList]; exact h2
    have hst : (Instr.keyThatStays e0.key k.enc).run X.P wa = .ok k.enc wa := by rw [h3]; exact KL.stays wa hx
    refine ⟨setBlock wa r (.map (es.modify j fun e => { e with key := k.enc, val := y.enc }) c), ?_, ?_, oth _ _⟩
    · simp [Instr.mapUpdate, run_underlying hu, MapKept.run_getObj_map hb, KL.check wa false hx, h1, hj, hst, MapKept.run_setObj_map _ hb, Result.andThen, setBlock]
    · have hjk : l[j].1 = k.enc := by
        have e1 : (es.toList.map (fun e => (e.key, e.val)))[j]? = some (e0.key, e0.val) := by rw [List.getElem?_map, h2]; rfl
        rw [hl, List.getElem?_map, List.getElem?_eq_getElem (by omega)] at e1
        have := congrArg Prod.fst (Option.some.inj e1)
        exact this.trans h3
      refine hF (l.set j (k.enc, y)) _ (.inr ⟨j, by omega, hjk, rfl⟩) (upd _ _) ⟨_, _, heap_setBlock_same hb _, ?_, ?_, ?_⟩
      rotate_left
      · have hm : (es.modify j fun e => { e with key := k.enc, val := y.enc }).toList.map (·.born) = es.toList.map (·.born) := by
          rw [Array.toList_modify]
          apply List.ext_getElem?
          intro i
          simp only [List.getElem?_map, List.getElem?_modify]
          by_cases hij : j = i
          · subst hij; simp only [if_true, if_pos]; cases es.toList[j]? <;> rfl
          · simp [hij]
        have := List.pairwise_map.2 hpw
        rw [← hm] at this
        exact List.pairwise_map.1 this
      · intro e he
        rw [Array.toList_modify] at he
        obtain ⟨i, hi, rfl⟩ := List.getElem_of_mem he
        rw [List.getElem_modify]
        rw [List.length_modify] at hi
        split
        · exact hborn es.toList[i] (List.getElem_mem hi)
        · exact hborn es.toList[i] (List.getElem_mem hi)
      apply List.ext_getElem?
      intro i
      have hi := congrArg (fun q => q[i]?) hl
      simp only [List.getElem?_map] at hi
      simp only [Array.toList_modify, List.getElem?_map, List.getElem?_modify, List.getElem?_set]
      by_cases hij : j = i
      · subst hij
        have : j < l.length := by omega
        simp [this, h2]
      · simpa [hij] using hi

theorem mapUpdate_wp {t r : Nat} {m x v : Operand} {k y : SV} (hop : o.op = .mapUpdate t m x v) (hdst : o.dst = none) (hm : s.ev m = some (.map (some r))) (hx : s.ev x = some k) (hv : s.ev v = some y) (hp : plain k = true) (hq : plain y = true)
    (hr : Rel X N s w a wa)
    (h : s.flush w fun s w => mapPut X t r k y s.live w fun w1 => K s w1) : o.wp X.P a wa (OpPost X N K s o a) Q := by
  have h' := flush_sound h hr
  rw [live_clean] at h'
  obtain ⟨w1, hrun, hK, hoth⟩ := mapPut_sound h'
  have hmv := hr.ev m _ hm
  have hxv := (relv_plain hp).1 (hr.ev x _ hx)
  have hyv := (relv_plain hq).1 (hr.ev v _ hv)
  simp only [RelV, SV.enc] at hmv
  unfold Oper.wp
  simp [execOp, hop, hmv, hxv, hyv, hrun, Result.andThen]
  refine ⟨_, _, hK, ?_, Nat.le_refl _, fun _ _ i _ => rfl, undef, rfl⟩
  have := hr.clean.world (w2 := w1) (fun i b t c hb => hoth b (live_of hb (hr.bx i b t c hb).1))
  rw [hdst]
  exact this
theorem mapDel_sound {t r tk : Nat} {k : SV} {bs : List Nat} {F : World → Prop} (h : mapDel X t r k bs wa F) :
    ∃ w1, (∀ ty, (Builtin.delete_ #[t, tk] ty #[.map (some r), k.enc]).run X.P wa = .ok (.tuple #[]) w1) ∧ F w1 ∧ ∀ b ∈ bs, w1.heap[b]? = wa.heap[b]? := by
  obtain ⟨hu, hn, l, ⟨es, c, hb, hl, hpw, hborn⟩, ⟨KL, ⟨lx, hx⟩, hk⟩, hF⟩ := h
  obtain ⟨m1, m2⟩ := mapl_key (r := r) hl
  have hkeys : ∀ e ∈ es.toList, ∃ l, keyOf X.P (X.M t).1 e.key = some l := fun e he => by
    obtain ⟨p, hp, hpe, _⟩ := m1 e he
    rw [← hpe]; exact hk p hp
  have upd : ∀ es' c', Upd [r] [] wa (setBlock wa r (.map es' c')) := fun es' c' =>
    ⟨rfl, rfl, rfl, by simp [setBlock], fun j hj hm => heap_setBlock_other hb _ (by simpa using hm), by simp⟩
  have oth : ∀ es' c', ∀ b ∈ bs, (setBlock wa r (.map es' c')).heap[b]? = wa.heap[b]? := fun es' c' b hb' => heap_setBlock_other hb _ (by rintro rfl; exact hn hb')
  rcases KL.find wa hx es.toList hkeys with ⟨h1, h2⟩ | ⟨j, e0, h1, h2, h3⟩
  · refine ⟨setBlock wa r (.map es c), fun ty => ?_, hF l _ (.inl ⟨fun p hp he => ?_, rfl⟩) (upd _ _) ⟨_, _, heap_setBlock_same hb _, hl, hpw, hborn⟩, oth _ _⟩
    · simp [Builtin.delete_, run_underlying hu, MapKept.run_getObj_map hb, KL.check wa _ hx, h1, MapKept.run_setObj_map _ hb, Result.andThen, setBlock]
    · obtain ⟨e, he', hpe⟩ := m2 p hp
      exact h2 e he' (hpe.trans he)
  · have hjl : j < es.toList.length := (List.getElem?_eq_some_iff.1 h2).1
    have hlen : es.toList.length = l.length := by have := congrArg List.length hl; simpa using this
    have hjs : j < es.size := by simpa using hjl
    have her : es.eraseIdxIfInBounds j = es.eraseIdx j hjs := by simp [Array.eraseIdxIfInBounds, hjs]
    refine ⟨setBlock wa r (.map (es.eraseIdx j hjs) c), fun ty => ?_, hF (l.eraseIdx j) _ (.inr ⟨j, by omega, ?_, rfl⟩) (upd _ _) ⟨_, _, heap_setBlock_same hb _, ?_, ?_, ?_⟩, oth _ _⟩
    · simp [Builtin.delete_, run_underlying hu, MapKept.run_getObj_map hb, KL.check wa _ hx, h1, her, MapKept.run_setObj_map _ hb, Result.andThen, setBlock]
    · have e1 : (es.toList.map (fun e => (e.key, e.val)))[j]? = some (e0.key, e0.val) := by rw [List.getElem?_map, h2]; rfl
      rw [hl, List.getElem?_map, List.getElem?_eq_getElem (by omega)] at e1
      have := congrArg Prod.fst (Option.some.inj e1)
      exact this.trans h3
    · rw [Array.toList_eraseIdx, map_eraseIdx, hl, map_eraseIdx]
    · rw [Array.toList_eraseIdx]
      exact hpw.sublist (List.eraseIdx_sublist _ _)
    · intro e he
      rw [Array.toList_eraseIdx] at he
      exact hborn e ((List.eraseIdx_sublist _ _).subset he)
theorem delete_wp {c : Call} {t tk r : Nat} {m x : Operand} {k : SV} (hop : o.op = .call c) (hcal : c.callee = .builtin .delete) (hat : c.argTypes.toList = [t, tk]) (hag : c.args.toList = [m, x]) (hm : s.ev m = some (.map (some r))) (hx : s.ev x = some k) (hp : plain k = true)
    (hr : Rel X N s w a wa) (hd : ∀ t, o.dst = some t → t < N)
    (h : s.flush w fun s w => mapDel X t r k s.live w fun w1 => K (s.putD o.dst (.tuple [])) w1) : o.wp X.P a wa (OpPost X N K s o a) Q := by
  have h' := flush_sound h hr
  rw [live_clean] at h'
  obtain ⟨w1, hrun, hK, hoth⟩ := mapDel_sound (tk := tk) h'
  have hmv := hr.ev m _ hm
  have hxv := (relv_plain hp).1 (hr.ev x _ hx)
  simp only [RelV, SV.enc] at hmv
  obtain ⟨callee, args, argTypes⟩ := c
  simp only at hcal hat hag
  have ha : args = #[m, x] := by apply Array.ext'; simpa using hag
  have hb : argTypes = #[t, tk] := by apply Array.ext'; simpa using hat
  subst hcal; subst ha; subst hb
  unfold Oper.wp
  simp [execOp, hop, resolve, invoke, builtin, hmv, hxv, hrun, Result.andThen]
  exact world_post (sv := .tuple []) hr.clean hd rfl (fun _ _ => rfl) rfl (by simp [SV.enc, SV.encL]) hoth hK
theorem mapLen_wp {c : Call} {t r : Nat} {x : Operand} (hop : o.op = .call c) (hcal : c.callee = .builtin .len) (hat : c.argTypes.toList = [t]) (hag : c.args.toList = [x]) (hx : s.ev x = some (.map (some r)))
    (hr : Rel X N s w a wa) (hd : ∀ t, o.dst = some t → t < N)
    (h : s.flush w fun s w => mapLen X t r w fun v => K (s.putD o.dst v) w) : o.wp X.P a wa (OpPost X N K s o a) Q := by
  have h' := flush_sound h hr
  obtain ⟨hu, l, ⟨es, c', hb, hl, _⟩, hK⟩ := h'
  have hlen : es.size = l.length := by have := congrArg List.length hl; simpa using this
  have hxv := hr.ev x _ hx
  simp only [RelV, SV.enc] at hxv
  obtain ⟨callee, args, argTypes⟩ := c
  simp only at hcal hat hag
  have ha : args = #[x] := by apply Array.ext'; simpa using hag
  have hbt : argTypes = #[t] := by apply Array.ext'; simpa using hat
  subst hcal; subst ha; subst hbt
  unfold Oper.wp
  simp [execOp, hop, resolve, invoke, builtin, Builtin.len_, hxv, run_underlying hu, MapKept.run_getObj_map hb, Result.andThen]
  exact world_post (sv := .int .i64 (l.length : Int)) hr.clean hd rfl (fun _ _ => rfl) rfl (by simp [SV.enc, goInt, hlen]) (fun _ _ => rfl) hK
theorem mem_liveFrom {s : St} {b : Nat} : ∀ l : List Nat, b ∈ s.liveFrom l → ∃ i t c, s.bx i = some (.box b t c)
  | [], h => by simp [St.liveFrom] at h
  | i :: r, h => by
    unfold St.liveFrom at h
    split at h
    · rename_i b' t c hb
      rcases List.mem_cons.1 h with rfl | h
      · exact ⟨i, t, c, hb⟩
      · exact mem_liveFrom r h
    · exact mem_liveFrom r h
theorem range_wp {t r : Nat} {x : Operand} (hop : o.op = .range t x) (hx : s.ev x = some (.map (some r))) (hr : Rel X N s w a wa) (hd : ∀ t, o.dst = some t → t < N)
    (h : s.flush w fun s w => mapRange X t r w fun b w => K (s.putD o.dst (.ptr (some ⟨b, 0, none⟩))) w) : o.wp X.P a wa (OpPost X N K s o a) Q := by
  have h' := flush_sound h hr
  obtain ⟨hu, l, ⟨es, c, hb, hl⟩, hK⟩ := h'
  have hxv := hr.ev x _ hx
  simp only [RelV, SV.enc] at hxv
  have hlt : r < wa.heap.size := (Array.getElem?_eq_some_iff.1 hb).1
  have hrun : (execOp a.eval o).run X.P wa = .ok (.value (.pointer (some ⟨wa.heap.size, 0, none⟩))) (wa.alloc (.mapIter (some r) c #[] c)) := by
    simp [execOp, hop, hxv, run_range_map wa t _ _ r es c hu hb, Result.andThen]
  unfold Oper.wp
  rw [hrun, Oper.upon_value]
  have hK' := hK wa.heap.size (wa.alloc (.mapIter (some r) c #[] c)) ⟨rfl, rfl, rfl, by simp, fun k hk _ => Below.heap_alloc wa _ k hk, by simp⟩
    ⟨es, c, #[], heap_alloc_new wa _, by rw [Below.heap_alloc wa _ r hlt]; exact hb, hl, by simp, by simp⟩
  exact world_post (sv := .ptr (some ⟨wa.heap.size, 0, none⟩)) hr.clean hd rfl (fun _ _ => rfl) rfl (by simp [SV.enc]) (fun b hb' => Below.heap_alloc wa _ b (by
    obtain ⟨i, t', c', hb2⟩ := mem_liveFrom _ hb'
    exact (Array.getElem?_eq_some_iff.1 (hr.bx i b t' c' hb2).2.1).1)) hK'
theorem leftOf_mem {es : Array MapEntry} {S : Array Nat} {e : MapEntry} : e ∈ (leftOf es S).toList ↔ e ∈ es.toList ∧ e.born ∉ S.toList := by
  unfold leftOf
  simp
theorem run_next_at {w : World} {ty it r c : Nat} {es : Array MapEntry} {S : Array Nat} (hit : w.heap[it]? = some (.mapIter (some r) c S c)) (hr : w.heap[r]? = some (.map es c)) (hold : ∀ x ∈ es.toList, x.born < c) :
    ((leftOf es S).size = 0 ∧ (Instr.next (.pointer (some ⟨it, 0, none⟩)) false ty).run X.P w = .ok (.tuple #[.bool false]) w) ∨
    ∃ e ∈ (leftOf es S).toList, ∃ w1 : World, (w1 = w ∨ w1 = w.drew) ∧ (Instr.next (.pointer (some ⟨it, 0, none⟩)) false ty).run X.P w = .ok (.tuple #[.bool true, e.key, e.val]) { w1 with heap := w1.heap.setIfInBounds it (.mapIter (some r) c (S.push e.born) c) } := by
  simp only [Instr.next, getObj, Sem.run_bind, Sem.run, hit, hr, Result.andThen, next_test_false S es c c hold (Nat.le_refl _), Bool.false_eq_true, if_false]
  unfold leftOf
  have hmem : ∀ x ∈ (Array.filter (fun e => !S.contains e.born) es).toList, x.born < c := fun x hx => hold x (by simp at hx ⊢; exact hx.1)
  generalize Array.filter (fun e => !S.contains e.born) es = L at hmem ⊢
  have e1 : L.filter (fun x => decide (x.born < c)) = L := Array.filter_eq_self.2 (fun x hx => by simpa using hmem x (by simpa using hx))
  have e2 : L.filter (fun x => decide (x.born ≥ c)) = #[] := by
    rw [Array.filter_eq_empty_iff]
    intro x hx
    have := hmem x (by simpa using hx)
    simp
    omega
  simp only [e1, e2, Array.append_empty]
  by_cases h0 : L.size = 0
  · left
    have : L = #[] := Array.eq_empty_of_size_eq_zero h0
    subst this
    refine ⟨rfl, ?_⟩
    simp [choose, Sem.run, Question.forced]
  · right
    have hne : L.isEmpty = false := by simp [Array.isEmpty, h0]
    simp only [hne, Bool.false_eq_true, if_false, Array.empty_append, Array.size_map]
    have hch : ∃ (j : Nat) (w1 : World), j < L.size ∧ (w1 = w ∨ w1 = w.drew) ∧ (choose (Question.mapNext L.size)).run X.P w = .ok j w1 := by
      by_cases hf : L.size ≤ 1
      · exact ⟨0, w, by omega, .inl rfl, by simp [choose, Sem.run, Question.forced, hf]⟩
      · exact ⟨_, w.drew, Nat.mod_lt _ (by omega), .inr rfl, by
          simp only [choose, Sem.run, Question.forced, decide_eq_true_eq, hf, if_false, Question.cut]
          rfl⟩
    obtain ⟨j, w1, hj, hal, hrun⟩ := hch
    refine ⟨L[j], by simp, w1, hal, ?_⟩
    have h1 : w1.heap[it]? = some (.mapIter (some r) c S c) := by rcases hal with rfl | rfl <;> exact hit
    simp only [hrun, Array.getElem?_map, Array.getElem?_eq_getElem hj, Option.map_some, Sem.run_bind, setObj, Sem.run, h1, Result.andThen]
    rfl
theorem seen_born {es : Array MapEntry} {seen : List Nat} {S : Array Nat} (hpw : es.toList.Pairwise (fun a b => a.born ≠ b.born)) (hin : ∀ i ∈ seen, i < es.size) (hS : S.toList = seen.reverse.map fun i => (es.toList[i]?.map (·.born)).getD 0) {i : Nat} (hi : i < es.size) : es[i].born ∈ S.toList ↔ i ∈ seen := by
  have hg : ∀ j, j < es.size → (es.toList[j]?.map (·.born)).getD 0 = (es.toList[j]?.map (·.born)).getD 0 := fun _ _ => rfl
  rw [hS, List.mem_map]
  constructor
  · rintro ⟨j, hj, e⟩
    rw [List.mem_reverse] at hj
    have hjl := hin j hj
    have ej : es.toList[j]? = some es[j] := by simp [hjl]
    rw [ej] at e
    simp at e
    have hij : ¬ (i ≠ j) := fun hne => by
      rw [List.pairwise_iff_getElem] at hpw
      rcases Nat.lt_or_gt_of_ne hne with h | h
      · exact hpw i j (by simpa using hi) (by simpa using hjl) h (by simpa using e.symm)
      · exact hpw j i (by simpa using hjl) (by simpa using hi) h (by simpa using e)
    have : i = j := Decidable.not_not.1 hij
    rw [this]; exact hj
  · intro h
    exact ⟨i, List.mem_reverse.2 h, by simp [hi]⟩
theorem next_wp {x : Operand} {p : Addr} (hop : o.op = .next x false) (hx : s.ev x = some (.ptr (some p))) (hp0 : p.off = 0) (hr : Rel X N s w a wa) (hd : ∀ t, o.dst = some t → t < N)
    (h : s.flush w fun s w => mapNext p.block s.live w fun v w => K (s.putD o.dst v) w) : o.wp X.P a wa (OpPost X N K s o a) Q := by
  have h' := flush_sound h hr
  rw [live_clean] at h'
  obtain ⟨hn, r, l, seen, hI, hover, hstep⟩ := h'
  have hI' := hI
  obtain ⟨es, c, S, hit, hmp, ⟨hl, hpw, hborn⟩, hin, hS⟩ := hI
  have hxv := hr.ev x _ hx
  simp only [RelV, SV.enc] at hxv
  have hlen : es.size = l.length := by have := congrArg List.length hl; simpa using this
  have hlt : p.block < wa.heap.size := (Array.getElem?_eq_some_iff.1 hit).1
  have hpe : (Instr.next (.pointer (some p)) false o.type) = Instr.next (.pointer (some ⟨p.block, 0, none⟩)) false o.type := by
    obtain ⟨b, off, sp⟩ := p
    simp only at hp0
    subst hp0
    rfl
  rcases run_next_at (X := X) (ty := o.type) hit hmp hborn with ⟨h0, hrun⟩ | ⟨e, he, w1, hw1, hrun⟩
  · have hall : ∀ i, i < l.length → i ∈ seen := fun i hi => by
      have hi' : i < es.size := by omega
      refine (seen_born hpw hin hS hi').1 (Decidable.byContradiction fun hnot => ?_)
      have : es[i] ∈ (leftOf es S).toList := leftOf_mem.2 ⟨by simp, hnot⟩
      rw [Array.eq_empty_of_size_eq_zero h0] at this
      simp at this
    unfold Oper.wp
    simp [execOp, hop, hxv, hpe, hrun, Result.andThen]
    exact world_post (sv := .tuple [.bool false]) hr.clean hd rfl (fun _ _ => rfl) rfl (by simp [SV.enc, SV.encL]) (fun _ _ => rfl) (hover hall)
  · obtain ⟨he1, he2⟩ := leftOf_mem.1 he
    obtain ⟨i, hi, rfl⟩ := List.getElem_of_mem he1
    have hi' : i < es.size := by simpa using hi
    have hns : i ∉ seen := fun hm => he2 (by simpa using (seen_born hpw hin hS hi').2 hm)
    have hil : i < l.length := by omega
    have e1 : (es.toList.map (fun e => (e.key, e.val)))[i]? = some (es.toList[i].key, es.toList[i].val) := by rw [List.getElem?_map, List.getElem?_eq_getElem hi]; rfl
    rw [hl, List.getElem?_map, List.getElem?_eq_getElem hil] at e1
    have ek : l[i].1 = es.toList[i].key := congrArg Prod.fst (Option.some.inj e1)
    have ev : l[i].2.enc = es.toList[i].val := congrArg Prod.snd (Option.some.inj e1)
    have hsz : w1.heap = wa.heap := by rcases hw1 with rfl | rfl <;> rfl
    have hg : ∀ b, b ≠ p.block → ({ w1 with heap := w1.heap.setIfInBounds p.block (.mapIter (some r) c (S.push es.toList[i].born) c) } : World).heap[b]? = wa.heap[b]? := fun b hb => by
      show (w1.heap.setIfInBounds p.block _)[b]? = _
      rw [Array.getElem?_setIfInBounds_ne (Ne.symm hb), hsz]
    have hrp : r ≠ p.block := fun e => by rw [e, hit] at hmp; cases hmp
    have hK := hstep i hil hns ({ w1 with heap := w1.heap.setIfInBounds p.block (.mapIter (some r) c (S.push es.toList[i].born) c) } : World)
      ⟨by rcases hw1 with rfl | rfl <;> rfl, by rcases hw1 with rfl | rfl <;> rfl, by rcases hw1 with rfl | rfl <;> rfl, by rw [← hsz]; simp, fun k hk hm => hg k (by simpa using hm), by simp⟩
      ⟨es, c, S.push es.toList[i].born, by
        show (w1.heap.setIfInBounds p.block _)[p.block]? = _
        rw [Array.getElem?_setIfInBounds_self_of_lt (by rw [hsz]; exact hlt)], by rw [hg r hrp]; exact hmp, ⟨hl, hpw, hborn⟩, fun j hj => by
        rcases List.mem_cons.1 hj with rfl | hj
        · exact hi'
        · exact hin j hj, by
        rw [Array.toList_push, hS, List.reverse_cons, List.map_append]
        simp [hi']⟩ es.toList[i].key es.toList[i].val
    unfold Oper.wp
    simp [execOp, hop, hxv, hpe, hrun, Result.andThen]
    exact world_post (sv := .tuple [.bool true, .raw es.toList[i].key, .raw es.toList[i].val]) hr.clean hd rfl (fun _ _ => rfl) rfl (by simp [SV.enc, SV.encL]) (fun b hb => hg b (fun e => hn (e ▸ hb))) hK
theorem ex_plain : ∀ (t : Ty) (F : SV → Prop), t.ex F → ∃ v, F v ∧ plain v = true := by
  intro t
  induction t using Ty.rec (motive_2 := fun ts => ∀ F : List SV → Prop, Ty.exs ts F → ∃ l, F l) with
  | int k => intro F ⟨n, h⟩; exact ⟨_, h, rfl⟩
  | bool => intro F ⟨n, h⟩; exact ⟨_, h, rfl⟩
  | str => intro F ⟨n, h⟩; exact ⟨_, h, rfl⟩
  | ptr e => intro F ⟨n, h⟩; exact ⟨_, h, rfl⟩
  | slice e => intro F ⟨n, h⟩; exact ⟨_, h, rfl⟩
  | map => intro F ⟨n, h⟩; exact ⟨_, h, rfl⟩
  | arr k n => intro F ⟨n, h⟩; exact ⟨_, h, rfl⟩
  | struct b ts ih => intro F h; obtain ⟨l, h⟩ := ih _ h; exact ⟨_, h, rfl⟩
  | tuple ts ih => intro F h; obtain ⟨l, h⟩ := ih _ h; exact ⟨_, h, rfl⟩
  | other => intro F ⟨n, h⟩; exact ⟨_, h, rfl⟩
  | nil => rename_i F h; exact ⟨_, h⟩
  | cons t r ih1 ih2 => rename_i F h; obtain ⟨x, h, _⟩ := ih1 _ h; obtain ⟨l, h⟩ := ih2 _ h; exact ⟨_, h⟩
theorem entry_wp {x : Operand} {p : Addr} (hop : o.op = .entry x) (hx : s.ev x = some (.ptr (some p))) (hp0 : p.off = 0) (hr : Rel X N s w a wa) (hd : ∀ t, o.dst = some t → t < N)
    (h : s.flush w fun s w => mapEntryVC X p.block w fun v => K (s.putD o.dst v) w) : o.wp X.P a wa (OpPost X N K s o a) Q := by
  have h' := flush_sound h hr
  obtain ⟨r, l, i, seen, k, ⟨es, c, S, hit, hmp, ⟨hl, hpw, hborn⟩, hin, hS⟩, hex⟩ := h'
  obtain ⟨v, ⟨hat, hK⟩, hpl⟩ := ex_plain _ _ hex
  have hxv := hr.ev x _ hx
  simp only [RelV, SV.enc] at hxv
  have hi : i < es.size := hin i (by simp)
  have e1 : (es.toList.map (fun e => (e.key, e.val)))[i]? = some (es[i].key, es[i].val) := by simp [hi]
  unfold EntAt at hat
  rw [hl, List.getElem?_map, hat] at e1
  have ek : k = es[i].key := congrArg Prod.fst (Option.some.inj e1)
  have ev : v.enc = es[i].val := congrArg Prod.snd (Option.some.inj e1)
  have hback : S.back? = some es[i].born := by
    rw [← Array.getLast?_toList, hS, List.reverse_cons, List.map_append]
    simp [hi]
  have hnd : (es.toList.map (·.born)).Nodup := List.pairwise_map.2 hpw
  have hf : es.find? (·.born == es[i].born) = some es[i] := by rw [← Array.find?_toList]; exact find_born es[i] es.toList hnd (by simp)
  have hpe : (Instr.entry (.pointer (some p))) = Instr.entry (.pointer (some ⟨p.block, 0, none⟩)) := by
    obtain ⟨b, off, sp⟩ := p
    simp only at hp0
    subst hp0
    rfl
  have hrun : (Instr.entry (.pointer (some p))).run X.P wa = .ok (.tuple #[es[i].key, es[i].val]) wa := by
    rw [hpe]
    simp only [Instr.entry, getObj, Sem.run_bind, Sem.run, hit, hmp, Result.andThen, hback, bne_self_eq_false, Bool.false_eq_true, if_false, hf]
    rfl
  unfold Oper.wp
  simp [execOp, hop, hxv, hrun, Result.andThen]
  exact world_post (sv := .tuple [.raw k, v]) hr.clean hd rfl (fun _ _ => rfl) rfl (by simp [SV.enc, SV.encL, ek, ev]) (fun _ _ => rfl) hK
end
/-- the key's and the element's type of each map type -/
def lookM : List (Nat × Nat × Nat) → Nat → Nat × Nat
  | [], _ => (0, 0)
  | (a, b, c) :: r, t => match Nat.beq a t with | true => (b, c) | false => lookM r t
theorem fieldsOK_M {X : Tab} {m : Nat → Nat × Nat} : ∀ (fs : List Field) (ts : List Ty) (n : Nat), fieldsOK X fs ts n → fieldsOK { X with M := m } fs ts n
  | [], [], _, h => h
  | [], _ :: _, _, h => h
  | _ :: _, [], _, h => h
  | _ :: fs, _ :: ts, _, h => by
    simp only [fieldsOK] at h ⊢
    first
      | exact ⟨h.1, h.2.1, fieldsOK_M fs ts _ h.2.2⟩
      | exact ⟨h.1, h.2.1, h.2.2.1, fieldsOK_M fs ts _ h.2.2.2⟩
      | exact ⟨h.1, fieldsOK_M fs ts _ h.2⟩
theorem fieldsOK_En {X : Tab} {m : Ty} : ∀ (fs : List Field) (ts : List Ty) (n : Nat), fieldsOK X fs ts n → fieldsOK { X with En := m } fs ts n
  | [], [], _, h => h
  | [], _ :: _, _, h => h
  | _ :: _, [], _, h => h
  | _ :: fs, _ :: ts, _, h => by
    simp only [fieldsOK] at h ⊢
    first
      | exact ⟨h.1, h.2.1, fieldsOK_En fs ts _ h.2.2⟩
      | exact ⟨h.1, h.2.1, h.2.2.1, fieldsOK_En fs ts _ h.2.2.2⟩
      | exact ⟨h.1, fieldsOK_En fs ts _ h.2⟩
theorem TabOK.withEn {X : Tab} (h : TabOK X) (m : Ty) : TabOK { X with En := m } := by
  refine ⟨fun t => ?_, h.info, h.eqg, h.call, h.mixed⟩
  have ht := h.ty t
  show tyOK { X with En := m } t (X.T t)
  cases hT : X.T t with
  | struct b ts =>
    rw [hT] at ht
    cases b
    · obtain ⟨fs, h1, h2, h3⟩ := ht
      exact ⟨fs, h1, fieldsOK_En _ _ _ h2, h3⟩
    · exact ht
  | _ => rw [hT] at ht; exact ht
theorem TabOK.withM {X : Tab} (h : TabOK X) (m : Nat → Nat × Nat) : TabOK { X with M := m } := by
  refine ⟨fun t => ?_, h.info, h.eqg, h.call, h.mixed⟩
  have ht := h.ty t
  show tyOK { X with M := m } t (X.T t)
  cases hT : X.T t with
  | struct b ts =>
    rw [hT] at ht
    cases b
    · obtain ⟨fs, h1, h2, h3⟩ := ht
      exact ⟨fs, h1, fieldsOK_M _ _ _ h2, h3⟩
    · exact ht
  | _ => rw [hT] at ht; exact ht
end Go.Vc
end

section
namespace Go.Vc
open Go.RowKit (Below)
set_option linter.unusedSimpArgs false
set_option linter.unusedVariables false
set_option autoImplicit false

section
variable {X : Tab} (ok : TabOK X) {N : Nat} {s : St} {w : World} {a : Act} {wa : World} {o : Oper} {K : St → World → Prop} {Q : Exit → Act → World → Prop}

theorem OpPost.weaken {s s' : St} (h1 : s'.nb = s.nb) (h2 : escapes s o = false → s' = s) {a' : Act} {w' : World} (h : OpPost X N K s' o a a' w') : OpPost X N K s o a a' w' := by
  obtain ⟨s2, w2, g1, g2, g3, g4, g5⟩ := h
  exact ⟨s2, w2, g1, g2, by rw [← h1]; exact g3, fun hs he i hi => by have := h2 he; subst this; exact g4 hs he i hi, g5⟩

include ok in
theorem esc_pure_wp {xs : List SV} (hr : Rel X N s w a wa) (hd : ∀ t, o.dst = some t → t < N) (hnl : isLoad o = false) (he : escapes s o = false → lptrs xs = [])
    (h : s.esc w xs fun s w => pureVC X s o fun v => K (s.putD o.dst v) w) : o.wp X.P a wa (OpPost X N K s o a) Q := by
  obtain ⟨s', w', h1, h2, h3, h4, h5⟩ := esc_sound h hr
  exact Oper.wp_mono (fun a' w' hp => hp.weaken h3 (fun e => (h4 (he e)).1)) (pure_wp ok h2 hd hnl h1)

include ok in
theorem opVC_sound (h : opVC X s w o K) (hr : Rel X N s w a wa) (hd : ∀ t, o.dst = some t → t < N) : o.wp X.P a wa (OpPost X N K s o a) Q := by
  have pure : isLoad o = false → (pureVC X s o fun v => K (s.putD o.dst v) w) → o.wp X.P a wa (OpPost X N K s o a) Q := fun hl hp => pure_wp ok hr hd hl hp
  cases hop : o.op <;> simp only [opVC, hop] at h
  case alloc t => exact alloc_wp ok hop hr hd h
  case box t x =>
    obtain ⟨v, hv, h⟩ := ifSome_iff.1 h
    exact box_wp hop hr hd hv h
  case store t ad x =>
    split at h
    · cases h
    · rename_i hdst
      obtain ⟨v, hv, h⟩ := ifSome_iff.1 h
      exact store_wp ok hop hr hd hv h hdst
  case load t x => exact load_wp ok hop hr hd h
  case buildSlice t n parts =>
    split at h
    · rename_i e l ht hl
      split at h
      · cases h
      · rename_i hc
        simp only [Bool.and_eq_true] at hc
        exact buildSlice_wp ok hop ht hl hr hd h (Nat.le_of_ble_eq_true hc.2) hc.1
    · cases h
  case slice t x lo hi mx =>
    split at h
    · rename_i id off p hx
      refine esc_pure_wp ok hr hd (by simp [isLoad, hop]) (fun he => ?_) h
      simp [escapes, hop, hx, plain] at he
    · exact pure (by simp [isLoad, hop]) h
  case makeFunc fn first cap =>
    split at h
    · rename_i l hl
      refine esc_pure_wp ok hr hd (by simp [isLoad, hop]) (fun he => ?_) h
      simp [escapes, hop, hl] at he
      exact plain_lptrs he
    · cases h
  case makeSlice t n c =>
    split at h
    · rename_i e l m ht hn hc
      split at h
      · cases h
      · rename_i hf
        exact makeSlice_wp ok hop ht hn hc hf hr hd h
    · cases h
  case convert src dst x =>
    split at h
    · rename_i e q hs hdt hx
      split at h
      · rename_i he
        exact bytes_wp ok hop hs hdt he hx hr hd h
      · cases h
    · rename_i e1 e q hs hdt hx
      split at h
      · rename_i he hsd
        obtain rfl := nbeq.1 hsd
        exact mark_wp ok hop hdt he hx hr hd h
      · cases h
    · exact pure (by simp [isLoad, hop]) h
  case makeMap t r =>
    split at h
    · rename_i ht
      exact makeMap_wp hop hr hd h
    · cases h
  case lookup t m x c =>
    split at h
    · rename_i p k z hm hx hz
      split at h
      · rename_i hp
        simp only [Bool.and_eq_true] at hp
        obtain ⟨r, rfl, h⟩ := derefN_iff.1 h
        exact lookup_wp ok hop hm hx hp.1 hz hp.2 hr hd h
      · cases h
    · cases h
  case range t x =>
    split at h
    · rename_i p hx
      obtain ⟨r, rfl, h⟩ := derefN_iff.1 h
      exact range_wp hop hx hr hd h
    · cases h
  case next x st =>
    split at h
    · rename_i p hx
      obtain ⟨a', rfl, h0, h⟩ := deref_iff.1 h
      exact next_wp hop hx h0 hr hd h
    · cases h
  case entry x =>
    split at h
    · rename_i p hx
      obtain ⟨a', rfl, h0, h⟩ := deref_iff.1 h
      exact entry_wp hop hx h0 hr hd h
    · cases h
  case mapUpdate t m x v =>
    split at h
    · rename_i p k y hdst hm hx hv
      split at h
      · rename_i hp
        simp only [Bool.and_eq_true] at hp
        obtain ⟨r, rfl, h⟩ := derefN_iff.1 h
        exact mapUpdate_wp hop hdst hm hx hv hp.1 hp.2 hr h
      · cases h
    · cases h
  case call c =>
    split at h
    · rename_i f hcal
      split at h
      · rename_i l hl
        obtain ⟨s', w', h1, h2, h3, h4, h5⟩ := esc_sound h hr
        split at h1
        · rename_i fid cs l' hf' hl'
          split at h1
          · rename_i hp
            simp only [Bool.and_eq_true] at hp
            have hesc : escapes s o = false → s'.bx = s.bx := by
              intro he
              simp [escapes, hop, hl] at he
              rw [(h4 (plain_lptrs he)).1]
            exact call_wp ok hop hcal h2 hd hf' hp.1 hl' hp.2 h3.symm hesc h1
          · cases h1
        · cases h1
      · cases h
    · rename_i hcal
      split at h
      · rename_i t u x y hat hag
        split at h
        · rename_i e e2 p q ht hu hx hy
          split at h
          · cases h
          · rename_i hf
            exact append_sl_wp ok hop hcal hat hag ht hu hx hy hf hr hd h
        · rename_i e p n ht hu hx hy
          split at h
          · cases h
          · rename_i hf
            exact append_z_wp ok hop hcal hat hag ht hu hx hy hf hr hd h
        · cases h
      · cases h
    · rename_i hcal
      split at h
      · rename_i t u x y hat hag
        split at h
        · rename_i e e2 p q ht hu hx hy
          split at h
          · cases h
          · rename_i hf
            exact copy_wp ok hop hcal hat hag ht hu hx hy hf hr hd h
        · cases h
      · cases h
    · rename_i hcal
      split at h
      · rename_i t x hat hag
        split at h
        · rename_i p ht hx
          obtain ⟨r, rfl, h⟩ := derefN_iff.1 h
          exact mapLen_wp hop hcal hat hag hx hr hd h
        · exact pure (by simp [isLoad, hop]) h
      · exact pure (by simp [isLoad, hop]) h
    · rename_i hcal
      split at h
      · rename_i t u x y hat hag
        split at h
        · rename_i p k hx hy
          split at h
          · rename_i hp
            obtain ⟨r, rfl, h⟩ := derefN_iff.1 h
            exact delete_wp hop hcal hat hag hx hy hp hr hd h
          · cases h
        · cases h
      · cases h
    · rename_i recv name hcal
      split at h
      · rename_i l hl
        obtain ⟨s', w', h1, h2, h3, h4, h5⟩ := esc_sound h hr
        split at h1
        · rename_i v l' hf' hl'
          split at h1
          · rename_i hp
            have hesc : escapes s o = false → s'.bx = s.bx := by
              intro he
              simp [escapes, hop, hl] at he
              rw [(h4 (plain_lptrs he)).1]
            exact invoke_wp ok hop hcal h2 hd hf' hl' hp h3.symm hesc h1
          · cases h1
        · cases h1
      · cases h
    · exact pure (by simp [isLoad, hop]) h
  all_goals exact pure (by simp [isLoad, hop]) h
end
end Go.Vc
end

section
namespace Go.Vc
open Go.RowKit (Below)
set_option linter.unusedSimpArgs false
set_option linter.unusedVariables false
set_option autoImplicit false

/-! ### curried functions -/
mutual
def Ty.cur {R : Type} : (t : Ty) → (SV → R) → t.Fn R
  | .int k, g => fun n => g (.int k n)
  | .bool, g => fun b => g (.bool b)
  | .str, g => fun s => g (.str s)
  | .ptr _, g => fun p => g (.ptr p)
  | .slice _, g => fun s => g (.slice s)
  | .map, g => fun r => g (.map r)
  | .arr k n, g => fun f => g (.arr k n f)
  | .struct _ ts, g => Ty.curs ts fun l => g (.struct l)
  | .tuple ts, g => Ty.curs ts fun l => g (.tuple l)
  | .other, g => fun v => g (.raw v)
def Ty.curs {R : Type} : (ts : List Ty) → (List SV → R) → Ty.Fns ts R
  | [], g => g []
  | t :: r, g => t.cur fun x => Ty.curs r fun l => g (x :: l)
end

/- a value of this type, as the functions take it -/
mutual
def fits : Ty → SV → Prop
  | .int k, .int k' _ => k = k'
  | .bool, .bool _ => True
  | .str, .str _ => True
  | .ptr _, .ptr _ => True
  | .slice _, .slice _ => True
  | .map, .map _ => True
  | .arr k n, .arr k' n' _ => k = k' ∧ n = n'
  | .struct _ ts, .struct l => fitsL ts l
  | .tuple ts, .tuple l => fitsL ts l
  | .other, .raw _ => True
  | _, _ => False
def fitsL : List Ty → List SV → Prop
  | [], [] => True
  | t :: r, x :: l => fits t x ∧ fitsL r l
  | _, _ => False
end
end Go.Vc
namespace Go.Vc
theorem fits_plain {t : Ty} {x : SV} (h : fits t x) : plain x = true := by cases x <;> first | rfl | (cases t <;> simp [fits] at h)

theorem app_fits : ∀ (t : Ty) {R : Type} (f : t.Fn R) (x : SV) (r : R), t.app f x = some r → fits t x := by
  intro t
  induction t using Ty.rec (motive_2 := fun ts => ∀ {R : Type} (f : Ty.Fns ts R) (l : List SV) (r : R), Ty.apps ts f l = some r → fitsL ts l) with
  | int k => intro R f x r h; cases x <;> simp [Ty.app] at h; split at h <;> simp at h; rename_i hk; simp [fits, ksame_eq hk]
  | bool => intro R f x r h; cases x <;> simp [Ty.app] at h; simp [fits]
  | str => intro R f x r h; cases x <;> simp [Ty.app] at h; simp [fits]
  | ptr e => intro R f x r h; cases x <;> simp [Ty.app] at h; simp [fits]
  | slice e => intro R f x r h; cases x <;> simp [Ty.app] at h; simp [fits]
  | map => intro R f x r h; cases x <;> simp [Ty.app] at h; simp [fits]
  | arr k n => intro R f x r h; cases x <;> simp [Ty.app] at h; split at h <;> simp at h; rename_i hk; simp at hk; simp [fits, ksame_eq hk.1, hk.2]
  | struct b ts ih => intro R f x r h; cases x <;> simp [Ty.app] at h; simp only [fits]; exact ih _ _ _ h
  | tuple ts ih => intro R f x r h; cases x <;> simp [Ty.app] at h; simp only [fits]; exact ih _ _ _ h
  | other => intro R f x r h; cases x <;> simp [Ty.app] at h; simp [fits]
  | nil => rename_i R f l r h; cases l <;> simp [Ty.apps] at h; simp [fitsL]
  | cons t ts ih1 ih2 =>
    rename_i R f l r h
    cases l with
    | nil => simp [Ty.apps] at h
    | cons x l =>
      simp only [Ty.apps] at h
      split at h
      · rename_i g hg
        exact ⟨ih1 _ _ _ hg, ih2 _ _ _ h⟩
      · cases h

theorem apps_fits (ts : List Ty) {R : Type} (f : Ty.Fns ts R) (l : List SV) (r : R) (h : Ty.apps ts f l = some r) : fitsL ts l := by
  have := app_fits (.tuple ts) f (.tuple l) r (by simpa [Ty.app] using h)
  simpa [fits] using this

theorem app_cur : ∀ (t : Ty) {R : Type} (g : SV → R) (x : SV), fits t x → t.app (t.cur g) x = some (g x) := by
  intro t
  induction t using Ty.rec (motive_2 := fun ts => ∀ {R : Type} (g : List SV → R) (l : List SV), fitsL ts l → Ty.apps ts (Ty.curs ts g) l = some (g l)) with
  | int k => intro R g x h; cases x <;> simp [fits] at h; subst h; simp [Ty.app, Ty.cur, ksame_refl]
  | bool => intro R g x h; cases x <;> simp [fits] at h; simp [Ty.app, Ty.cur]
  | str => intro R g x h; cases x <;> simp [fits] at h; simp [Ty.app, Ty.cur]
  | ptr e => intro R g x h; cases x <;> simp [fits] at h; simp [Ty.app, Ty.cur]
  | slice e => intro R g x h; cases x <;> simp [fits] at h; simp [Ty.app, Ty.cur]
  | map => intro R g x h; cases x <;> simp [fits] at h; simp [Ty.app, Ty.cur]
  | arr k n => intro R g x h; cases x <;> simp [fits] at h; obtain ⟨rfl, rfl⟩ := h; simp [Ty.app, Ty.cur, ksame_refl]
  | struct b ts ih => intro R g x h; cases x <;> simp only [fits] at h; simp only [Ty.app, Ty.cur]; exact ih _ _ h
  | tuple ts ih => intro R g x h; cases x <;> simp only [fits] at h; simp only [Ty.app, Ty.cur]; exact ih _ _ h
  | other => intro R g x h; cases x <;> simp [fits] at h; simp [Ty.app, Ty.cur]
  | nil => rename_i R g l h; cases l <;> simp [fitsL] at h; simp [Ty.apps, Ty.curs]
  | cons t ts ih1 ih2 =>
    rename_i R g l h
    cases l with
    | nil => simp [fitsL] at h
    | cons x l =>
      simp only [fitsL] at h
      simp only [Ty.apps, Ty.curs]
      rw [ih1 _ x h.1]
      exact ih2 _ l h.2

theorem apps_curs (ts : List Ty) {R : Type} (g : List SV → R) (l : List SV) (h : fitsL ts l) : Ty.apps ts (Ty.curs ts g) l = some (g l) := by
  have := app_cur (.tuple ts) (fun x => match x with | .tuple l => g l | _ => g []) (.tuple l) (by simpa [fits] using h)
  simpa [Ty.app, Ty.cur] using this

theorem all_fits : ∀ (t : Ty) (F : SV → Prop), t.all F ↔ ∀ x, fits t x → F x := by
  intro t
  induction t using Ty.rec (motive_2 := fun ts => ∀ (F : List SV → Prop), Ty.alls ts F ↔ ∀ l, fitsL ts l → F l) with
  | int k => intro F; simp only [Ty.all]; exact ⟨fun h x hx => by cases x <;> simp [fits] at hx; subst hx; exact h _, fun h n => h _ rfl⟩
  | bool => intro F; simp only [Ty.all]; exact ⟨fun h x hx => by cases x <;> simp [fits] at hx; exact h _, fun h n => h _ trivial⟩
  | str => intro F; simp only [Ty.all]; exact ⟨fun h x hx => by cases x <;> simp [fits] at hx; exact h _, fun h n => h _ trivial⟩
  | ptr e => intro F; simp only [Ty.all]; exact ⟨fun h x hx => by cases x <;> simp [fits] at hx; exact h _, fun h n => h _ trivial⟩
  | slice e => intro F; simp only [Ty.all]; exact ⟨fun h x hx => by cases x <;> simp [fits] at hx; exact h _, fun h n => h _ trivial⟩
  | map => intro F; simp only [Ty.all]; exact ⟨fun h x hx => by cases x <;> simp [fits] at hx; exact h _, fun h n => h _ trivial⟩
  | arr k n => intro F; simp only [Ty.all]; exact ⟨fun h x hx => by cases x <;> simp [fits] at hx; obtain ⟨rfl, rfl⟩ := hx; exact h _, fun h n => h _ ⟨rfl, rfl⟩⟩
  | struct b ts ih => intro F; simp only [Ty.all, ih]; exact ⟨fun h x hx => by cases x <;> simp only [fits] at hx; exact h _ hx, fun h l hl => h (.struct l) hl⟩
  | tuple ts ih => intro F; simp only [Ty.all, ih]; exact ⟨fun h x hx => by cases x <;> simp only [fits] at hx; exact h _ hx, fun h l hl => h (.tuple l) hl⟩
  | other => intro F; simp only [Ty.all]; exact ⟨fun h x hx => by cases x <;> simp [fits] at hx; exact h _, fun h n => h _ trivial⟩
  | nil => rename_i F; simp only [Ty.alls]; exact ⟨fun h l hl => by cases l <;> simp [fitsL] at hl; exact h, fun h => h [] trivial⟩
  | cons t ts ih1 ih2 =>
    rename_i F
    simp only [Ty.alls, ih1, ih2]
    exact ⟨fun h l hl => by cases l <;> simp only [fitsL] at hl; exact h _ hl.1 _ hl.2, fun h x hx l hl => h (x :: l) ⟨hx, hl⟩⟩
theorem alls_fits (ts : List Ty) (F : List SV → Prop) : Ty.alls ts F ↔ ∀ l, fitsL ts l → F l := by
  have := all_fits (.tuple ts) (fun x => match x with | .tuple l => F l | _ => True)
  simp only [Ty.all] at this
  rw [this]
  exact ⟨fun h l hl => h (.tuple l) hl, fun h x hx => by cases x <;> simp only [fits] at hx; exact h _ hx⟩
end Go.Vc
end

section
namespace Go.Vc
open Go.RowKit (Below)
set_option linter.unusedSimpArgs false
set_option linter.unusedVariables false
set_option autoImplicit false

def Fr (W : List Nat) (a a' : Act) : Prop := ∀ t, t ∉ W → a'.tmps.getD t undef = a.tmps.getD t undef
theorem Fr.refl (W : List Nat) (a : Act) : Fr W a a := fun _ _ => rfl
theorem Fr.trans {W W' : List Nat} {a b c : Act} (h : Fr W a b) (k : Fr W' b c) : Fr (W ++ W') a c := fun t ht => by
  simp only [List.mem_append, not_or] at ht
  rw [k t ht.2, h t ht.1]
theorem Fr.mono {W W' : List Nat} {a b : Act} (h : Fr W a b) (hs : ∀ t ∈ W, t ∈ W') : Fr W' a b := fun t ht => h t (fun hm => ht (hs t hm))
theorem Fr.put (a : Act) (d : Option Nat) (v : Value) : Fr d.toList a (a.put d v) := fun t ht => by
  cases d with
  | none => rfl
  | some u =>
    have hne : u ≠ t := by rintro rfl; simp at ht
    simp only [Act.put, Array.getD_eq_getD_getElem?, Array.getElem?_setIfInBounds, if_neg hne]

/-- what the code's own logic is asked -/
def Post (X : Tab) (N : Nat) (k : St → World → Prop) (ex : Nat → St → World → Prop) (ret : St → World → Prop) (W : List Nat) (a0 : Act) : Exit → Act → World → Prop
  | .normal, a, wa => (∃ s w, k s w ∧ Rel X N s w a wa) ∧ Fr W a0 a
  | .exit i, a, wa => (∃ s w, ex i s w ∧ Rel X N s w a wa) ∧ Fr W a0 a
  | .ret, a, wa => ∃ s w, ret s w ∧ Rel X N s w a wa
  | _, _, _ => False

section
variable {X : Tab} (ok : TabOK X) {N : Nat} {s : St} {w : World} {a : Act} {wa : World} {Q : Exit → Act → World → Prop}

theorem dstOf_eq (ops : Array Oper) (j : Nat) : dstOf ops.toList j = (ops[j]?).bind (·.dst) := by
  unfold dstOf
  rw [nth_eq]
  simp only [Array.getElem?_toList]
  cases ops[j]? <;> rfl

/-- an operation under its guard -/
theorem guard_sound {ops : Array Oper} {o : Oper} {yes no : St → Prop} (h : guardVC ops.toList s o yes no) (hr : Rel X N s w a wa) :
    (Region.wanted o (yielded ops a.tmps) = true → ∃ s1, yes s1 ∧ Rel X N s1 w a wa ∧ s1.bx = s.bx ∧ s1.nb = s.nb ∧ s1.mods = s.mods) ∧
    (Region.wanted o (yielded ops a.tmps) = false → ∃ s1, no s1 ∧ Rel X N s1 w (a.put o.dst undef) wa ∧ s1.bx = s.bx ∧ s1.nb = s.nb ∧ s1.mods = s.mods) := by
  unfold guardVC at h
  unfold Region.wanted
  cases hg : o.guard with
  | none =>
    simp only [hg] at h
    exact ⟨fun _ => ⟨s, h, hr, rfl, rfl, rfl⟩, fun e => by simp at e⟩
  | some gw =>
    obtain ⟨j, want⟩ := gw
    simp only [hg] at h
    simp only
    cases hd : dstOf ops.toList j with
    | none => simp [hd] at h
    | some d =>
      simp only [hd] at h
      cases he : s.env d with
      | none => simp [he] at h
      | some x =>
        rw [he] at h
        cases x with
        | bool c => ?_
        | tuple l =>
          cases l with
          | cons _ _ => exact absurd h (by simp)
          | nil =>
            simp only at h
            have hv := hr.env d _ he
            simp only [RelV, SV.enc, SV.encL] at hv
            have hy : yielded ops a.tmps j = none := by
              unfold yielded
              rw [← dstOf_eq, hd]
              simp only [Option.bind_some]
              rw [Array.getD_eq_getD_getElem?] at hv
              cases ht : a.tmps[d]? with
              | none => rfl
              | some u => rw [ht] at hv; simp at hv; rw [hv]
            rw [hy]
            have dbx : ∀ (s : St) (d : Option Nat), (s.drop d).bx = s.bx ∧ (s.drop d).nb = s.nb ∧ (s.drop d).mods = s.mods := fun s d => by cases d <;> exact ⟨rfl, rfl, rfl⟩
            exact ⟨fun e => by simp at e, fun _ => ⟨_, h, hr.drop o.dst, (dbx _ _).1, (dbx _ _).2.1, (dbx _ _).2.2⟩⟩
        | _ => exact absurd h (by simp)
        have hv := hr.env d _ he
        simp only [RelV, SV.enc] at hv
        have hy : yielded ops a.tmps j = some c := by
          unfold yielded
          rw [← dstOf_eq, hd]
          simp only [Option.bind_some]
          rw [Array.getD_eq_getD_getElem?] at hv
          cases ht : a.tmps[d]? with
          | none => rw [ht] at hv; simp [undef] at hv
          | some u => rw [ht] at hv; simp at hv; rw [hv]
        rw [hy]
        have hk : ∀ b, c = b → Rel X N (s.put d (some (.bool b))) w a wa := fun b e => by subst e; exact hr.known he
        have hdr : ∀ (b : Bool), c = b → Rel X N ((s.put d (some (.bool b))).drop o.dst) w (a.put o.dst undef) wa := fun b e => (hk b e).drop o.dst
        have dbx : ∀ (s : St) (d : Option Nat), (s.drop d).bx = s.bx ∧ (s.drop d).nb = s.nb ∧ (s.drop d).mods = s.mods := fun s d => by cases d <;> exact ⟨rfl, rfl, rfl⟩
        cases want with
        | true =>
          have h : Br c _ _ := h
          have h := Br_iff.1 h
          refine ⟨fun e => ?_, fun e => ?_⟩
          · have hc : c = true := by simpa using e
            exact ⟨_, h.1 hc, hk true hc, rfl, rfl, rfl⟩
          · have hc : c = false := by simpa using e
            exact ⟨_, h.2 hc, hdr false hc, (dbx _ _).1, (dbx _ _).2.1, (dbx _ _).2.2⟩
        | false =>
          have h : Br c _ _ := h
          have h := Br_iff.1 h
          refine ⟨fun e => ?_, fun e => ?_⟩
          · have hc : c = false := by simpa using e
            exact ⟨_, h.2 hc, hk false hc, rfl, rfl, rfl⟩
          · have hc : c = true := by simpa using e
            exact ⟨_, h.1 hc, hdr true hc, (dbx _ _).1, (dbx _ _).2.1, (dbx _ _).2.2⟩

theorem opsW_cons (x : Oper) (r : List Oper) : opsW (x :: r) = x.dst.toList ++ opsW r := by
  simp only [opsW]
  cases x.dst <;> rfl

theorem mem_opsW {l : List Oper} {o : Oper} {t : Nat} (h : o ∈ l) (ht : o.dst = some t) : t ∈ opsW l := by
  induction l with
  | nil => cases h
  | cons x r ih =>
    rw [opsW_cons]
    rcases List.mem_cons.1 h with rfl | h
    · simp [ht]
    · exact List.mem_append_right _ (ih h)

include ok in
theorem opsVC_sound {ops : Array Oper} {k : St → World → Prop} : ∀ {l : List Oper} {s : St} {w : World} {a : Act} {wa : World}, opsVC X ops.toList l s w k → Rel X N s w a wa → (∀ t ∈ opsW l, t < N) →
    (∀ s' w' a' wa', k s' w' → Rel X N s' w' a' wa' → Fr (opsW l) a a' → Q .normal a' wa') → wpList X.P ops Q l a wa
  | [], s, w, a, wa, h, hr, _, hQ => hQ s w a wa h hr (Fr.refl _ _)
  | o :: l, s, w, a, wa, h, hr, hN, hQ => by
    simp only [opsVC] at h
    have hg := guard_sound h hr
    have hd : ∀ t, o.dst = some t → t < N := fun t ht => hN t (mem_opsW (by simp) ht)
    have hl : ∀ t ∈ opsW l, t < N := fun t ht => hN t (by rw [opsW_cons]; exact List.mem_append_right _ ht)
    have hfr : ∀ a' v, Fr (opsW l) (a.put o.dst v) a' → Fr (opsW (o :: l)) a a' := fun a' v hf => by
      rw [opsW_cons]
      exact (Fr.put a o.dst v).trans hf
    unfold wpList
    split
    · rename_i hw
      left
      obtain ⟨s1, hy, hr1, _⟩ := hg.1 hw
      refine Oper.wp_mono ?_ (opVC_sound ok (Q := Q) hy hr1 hd)
      rintro a' wa' ⟨s', w', h1, h2, _, _, v, rfl⟩
      exact opsVC_sound h1 h2 hl (fun s2 w2 a2 wa2 hk hr2 hf => hQ s2 w2 a2 wa2 hk hr2 (hfr a2 v hf))
    · rename_i hw
      obtain ⟨s1, hn, hr1, _⟩ := hg.2 (by simpa using hw)
      exact opsVC_sound hn hr1 hl (fun s2 w2 a2 wa2 hk hr2 hf => hQ s2 w2 a2 wa2 hk hr2 (hfr a2 undef hf))

theorem setAll_nb : ∀ (ks : List (Key × Ty)) (l : List SV) (s : St), (s.setAll ks l).nb = s.nb ∧ (s.setAll ks l).nb0 = s.nb0 ∧ (s.setAll ks l).ids = s.ids ∧ (s.setAll ks l).mods = s.mods ∧ (s.setAll ks l).news = s.news ∧ (s.setAll ks l).dirty = s.dirty
  | [], l, s => by cases l <;> simp [St.setAll]
  | (.t n, _) :: r, [], s => by simp [St.setAll]
  | (.b n, _) :: r, [], s => by simp [St.setAll]
  | (.t n, _) :: r, x :: l, s => by
    simp only [St.setAll]
    exact setAll_nb r l _
  | (.b n, _) :: r, x :: l, s => by
    simp only [St.setAll]
    split
    · exact setAll_nb r l _
    · exact setAll_nb r l _

theorem setAll_env {s1 : St} : ∀ {ks : List (Key × Ty)} {l : List SV} {s : St}, s1.get ks = some l → fitsL (tysOf ks) l → ∀ u y, (s.setAll ks l).env u = some y → (s1.env u = some y ∧ plain y = true) ∨ s.env u = some y
  | [], l, s, h, _, u, y, hy => by cases l <;> exact .inr (by simpa [St.setAll] using hy)
  | (.t n, ty) :: r, l, s, h, hf, u, y, hy => by
    simp only [St.get] at h
    split at h
    · rename_i x l' h1 h2
      obtain rfl : x :: l' = l := by simpa using h
      simp only [tysOf, fitsL] at hf
      simp only [St.setAll] at hy
      rcases setAll_env h2 hf.2 u y hy with e | e
      · exact .inl e
      · simp only [St.put] at e
        split at e
        · rename_i hu
          obtain rfl := nbeq.1 hu
          obtain rfl : x = y := by simpa using e
          exact .inl ⟨h1, fits_plain hf.1⟩
        · exact .inr e
    · cases h
  | (.b n, ty) :: r, l, s, h, hf, u, y, hy => by
    simp only [St.get] at h
    split at h
    · rename_i b t c l' h1 h2
      obtain rfl : c :: l' = l := by simpa using h
      simp only [tysOf, fitsL] at hf
      simp only [St.setAll] at hy
      split at hy
      · exact (setAll_env h2 hf.2 u y hy).imp id (fun e => by simpa [St.putB] using e)
      · exact setAll_env h2 hf.2 u y hy
    · cases h

theorem setAll_bx {s1 : St} : ∀ {ks : List (Key × Ty)} {l : List SV} {s : St}, s1.get ks = some l → ∀ i b t c, (s.setAll ks l).bx i = some (.box b t c) →
    ∃ c0, s.bx i = some (.box b t c0) ∧ ((c = c0 ∧ ∀ ty, (Key.b i, ty) ∉ ks) ∨ ((∃ ty, (Key.b i, ty) ∈ ks) ∧ ∃ b1 t1, s1.bx i = some (.box b1 t1 c)))
  | [], l, s, h, i, b, t, c, hy => ⟨c, (by cases l <;> simpa [St.setAll] using hy), .inl ⟨rfl, by simp⟩⟩
  | (.t n, ty) :: r, l, s, h, i, b, t, c, hy => by
    simp only [St.get] at h
    split at h
    · rename_i x l' h1 h2
      obtain rfl : x :: l' = l := by simpa using h
      simp only [St.setAll] at hy
      obtain ⟨c0, e1, e2⟩ := setAll_bx h2 i b t c hy
      refine ⟨c0, e1, e2.imp (fun e => ⟨e.1, fun ty' hm => ?_⟩) (fun e => ⟨?_, e.2⟩)⟩
      · rcases List.mem_cons.1 hm with hm | hm
        · cases hm
        · exact e.2 ty' hm
      · obtain ⟨ty', hm⟩ := e.1
        exact ⟨ty', List.mem_cons_of_mem _ hm⟩
    · cases h
  | (.b n, ty) :: r, l, s, h, i, b, t, c, hy => by
    simp only [St.get] at h
    split at h
    · rename_i b1 t1 c1 l' h1 h2
      obtain rfl : c1 :: l' = l := by simpa using h
      simp only [St.setAll] at hy
      split at hy
      · rename_i b2 t2 c2 hs
        obtain ⟨c0, e1, e2⟩ := setAll_bx h2 i b t c hy
        simp only [St.putB] at e1
        by_cases hin : i = n
        · subst hin
          simp at e1
          obtain ⟨rfl, rfl, rfl⟩ := e1
          refine ⟨c2, hs, .inr ⟨⟨ty, by simp⟩, ?_⟩⟩
          rcases e2 with ⟨rfl, _⟩ | ⟨_, e2⟩
          · exact ⟨_, _, h1⟩
          · exact e2
        · rw [nbeq_false.2 hin] at e1
          refine ⟨c0, e1, e2.imp (fun e => ⟨e.1, fun ty' hm => ?_⟩) (fun e => ⟨?_, e.2⟩)⟩
          · rcases List.mem_cons.1 hm with hm | hm
            · cases hm; exact hin rfl
            · exact e.2 ty' hm
          · obtain ⟨ty', hm⟩ := e.1
            exact ⟨ty', List.mem_cons_of_mem _ hm⟩
      · rename_i hno
        obtain ⟨c0, e1, e2⟩ := setAll_bx h2 i b t c hy
        have hin : i ≠ n := by
          rintro rfl
          exact hno _ _ _ e1
        refine ⟨c0, e1, e2.imp (fun e => ⟨e.1, fun ty' hm => ?_⟩) (fun e => ⟨?_, e.2⟩)⟩
        · rcases List.mem_cons.1 hm with hm | hm
          · cases hm; exact hin rfl
          · exact e.2 ty' hm
        · obtain ⟨ty', hm⟩ := e.1
          exact ⟨ty', List.mem_cons_of_mem _ hm⟩
    · cases h

/-- behind a piece of code: the state that goes on -/
theorem Rel.forget {s1 : St} {w1 : World} {a' : Act} {wa' : World} (h0 : Rel X N s w a wa) (h1 : Rel X N s1 w1 a' wa') {W : List Nat} (hf : Fr W a a') {ks : List (Key × Ty)} {bs : List Nat} {l : List SV}
    (hsame : ∀ i ∈ bs, s1.bx i = s.bx i) (hnum : ∀ n t, (Key.b n, t) ∈ ks → boxBT (s1.bx n) = boxBT (s.bx n)) (hget : s1.get ks = some l) (hfit : fitsL (tysOf ks) l) :
    Rel X N ((s.forget W ks bs).setAll ks l) wa' a' wa' := by
  obtain ⟨e1, e2, e3, e4, e5, e6⟩ := setAll_nb ks l (s.forget W ks bs)
  have hbx : ∀ i b t c, ((s.forget W ks bs).setAll ks l).bx i = some (.box b t c) → (∃ c0, s.bx i = some (.box b t c0)) ∧ s1.bx i = some (.box b t c) := by
    intro i b t c hb
    obtain ⟨c0, g1, g2⟩ := setAll_bx hget i b t c hb
    simp only [St.forget] at g1
    split at g1
    · rename_i hin
      have hs1 := hsame i (hasN_iff.1 hin)
      rcases g2 with ⟨rfl, _⟩ | ⟨_, b1, t1, g2⟩
      · exact ⟨⟨_, g1⟩, by rw [hs1]; exact g1⟩
      · rw [hs1, g1] at g2
        simp at g2
        obtain ⟨rfl, rfl, rfl⟩ := g2
        exact ⟨⟨_, g1⟩, by rw [hs1]; exact g1⟩
    · split at g1
      · rename_i hany
        rcases g2 with ⟨rfl, hno⟩ | ⟨⟨ty, hm⟩, b1, t1, g2⟩
        · exfalso
          obtain ⟨⟨k, ty⟩, hk1, hk2⟩ := List.any_eq_true.1 hany
          cases k with
          | t n => simp at hk2
          | b n =>
            obtain rfl := nbeq.1 hk2
            exact hno ty hk1
        · have := hnum i ty hm
          rw [g1, g2] at this
          simp [boxBT] at this
          obtain ⟨rfl, rfl⟩ := this
          exact ⟨⟨_, g1⟩, g2⟩
      · cases g1
  have henv : ∀ u y, ((s.forget W ks bs).setAll ks l).env u = some y → (s1.env u = some y ∧ plain y = true) ∨ (u ∉ W ∧ s.env u = some y) := by
    intro u y hy
    refine (setAll_env hget hfit u y hy).imp id (fun e => ?_)
    simp only [St.forget] at e
    split at e
    · cases e
    · rename_i hW
      exact ⟨(fun hm => by rw [hasN_iff.2 hm] at hW; cases hW), e⟩
  exact {
    defers := h1.defers
    size := h1.size
    env := fun u y hy => by
      rcases henv u y hy with ⟨g1, g2⟩ | ⟨g1, g2⟩
      · exact (relv_plain g2).2 ((relv_plain g2).1 (h1.env u y g1))
      · have := h0.env u y g2
        rw [hf u g1]
        cases y <;> simp only [RelV] at this ⊢ <;> try exact this
        intro b t c hb
        obtain ⟨⟨c0, g3⟩, _⟩ := hbx _ b t c hb
        exact this b t c0 g3
    bx := fun i b t c hb => by
      obtain ⟨⟨c0, g1⟩, g2⟩ := hbx i b t c hb
      refine ⟨?_, (h1.bx i b t c g2).2⟩
      rw [e1]
      exact (h0.bx i b t c0 g1).1
    sep := fun i j b t c b' t' c' hi hj => h1.sep i j b t c b' t' c' (hbx i b t c hi).2 (hbx j b' t' c' hj).2
    lp := fun u id off p hu => by
      rw [e1]
      rcases henv u _ hu with ⟨_, g2⟩ | ⟨_, g2⟩
      · simp [plain] at g2
      · exact h0.lp u id off p g2
    nb0 := by rw [e1, e2]; exact Nat.le_refl _
    newIn := fun i b t c hb hn => by
      obtain ⟨⟨c0, g1⟩, g2⟩ := hbx i b t c hb
      have := (h0.bx i b t c0 g1).1
      rw [e2] at hn
      have hn : s.nb ≤ i := hn
      omega
    modIn := fun i b t c hb hn => by rw [e3] at hn; exact absurd hn (by simp [St.forget, St.clean])
    idlt := by rw [e3]; simp [St.forget, St.clean]
    upd := by
      rw [e4, e5]
      exact Upd.refl wa'
    cln := fun _ => rfl }
end
end Go.Vc
end
