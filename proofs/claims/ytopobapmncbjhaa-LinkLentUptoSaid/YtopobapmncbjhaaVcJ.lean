import Derived.Test.YtopobapmncbjhaaVcI
namespace Go.Vc
open Go.RowKit (Below)
set_option linter.unusedSimpArgs false
set_option linter.unusedVariables false
set_option autoImplicit false

def OpPost (X : Tab) (N : Nat) (K : St → World → Prop) (s : St) (o : Oper) (a : Act) : Act → World → Prop := fun a' wa' =>
  ∃ s' w', K s' w' ∧ Rel X N s' w' a' wa' ∧ s.nb ≤ s'.nb ∧ (isStore o = false → escapes s o = false → ∀ i, i < s.nb → s'.bx i = s.bx i) ∧ ∃ v, a' = a.put o.dst v

theorem plain_lptrs : ∀ {l : List SV}, allPlain l = true → lptrs l = []
  | [], _ => rfl
  | x :: r, h => by
    simp only [allPlain, Bool.and_eq_true] at h
    cases x <;> simp [plain] at h <;> simp [lptrs, plain_lptrs h]

section
variable {X : Tab} (ok : TabOK X) {N : Nat} {s : St} {w : World} {a : Act} {wa : World} {o : Oper} {K : St → World → Prop} {Q : Exit → Act → World → Prop}

theorem lp_nb (hr : Rel X N s w a wa) {sv : SV} (h : LP s sv) : ∀ id off p, sv = .lptr id off p → id < s.nb := by
  intro id off p e
  obtain ⟨x, off', p', hx⟩ := h id off p e
  cases x with
  | tmp t => exact hr.lp t id off' p' hx
  | const v =>
    exfalso
    simp only [St.ev] at hx
    unfold constSV at hx
    split at hx <;> first | (simp at hx; done) | (split at hx <;> simp at hx)
  | global g => simp [St.ev] at hx
  | func f => simp [St.ev] at hx

/-- an operation that yields a value in the world as it stands -/
theorem value_wp (hr : Rel X N s w a wa) (hd : ∀ t, o.dst = some t → t < N) {v : Value} {sv : SV} (hv : RelV X s v sv) (hl : LP s sv) (hrun : (execOp a.eval o).run X.P wa = .ok (.value v) wa) (hK : K (s.putD o.dst sv) w) :
    o.wp X.P a wa (OpPost X N K s o a) Q := by
  unfold Oper.wp
  rw [hrun, Oper.upon_value]
  exact ⟨_, w, hK, hr.putD hd hv (lp_nb hr hl), by rw [putD_nb]; exact Nat.le_refl _, fun _ _ i _ => by rw [putD_bx], v, rfl⟩

include ok in
theorem pure_wp (hr : Rel X N s w a wa) (hd : ∀ t, o.dst = some t → t < N) (hnl : isLoad o = false) (h : pureVC X s o fun v => K (s.putD o.dst v) w) : o.wp X.P a wa (OpPost X N K s o a) Q := by
  obtain ⟨v, sv, h1, h2, h3, h4⟩ := pure_sound ok hr.ev hnl h
  exact value_wp hr hd h1 h3 (h4 wa) h2

/-- a load from a local struct -/
theorem box_load {id off : Nat} {p : List Nat} {t : Nat} {v : Value} {F : SV → Prop} (ok : TabOK X) (hb : ∀ b t c, s.bx id = some (.box b t c) → wa.heap[b]? = some (.cells c.cells.toArray t (0, 0)) ∧ c.shape (X.T t) = true)
    (hv : RelV X s v (.lptr id off p)) (hl : lIs X s id p t = true) (hD : isData (X.T t) = true) (h : match s.bx id with | some (.box _ _ c) => ifSome (getPath c p) F | _ => False) :
    ∃ x, x.shape (X.T t) = true ∧ F x ∧ (Instr.loadAt t v).run X.P wa = .ok x.enc wa := by
  obtain ⟨b, bt, c, h1, h2, h3⟩ := lIs_path hv hl
  obtain ⟨g1, g2⟩ := hb b bt c h1
  rw [h1] at h
  obtain ⟨x, h4, h5⟩ := ifSome_iff.1 h
  obtain ⟨y, h6, h7, pre, post, h8, h9, _⟩ := path_get g2 h3
  rw [h6] at h4
  obtain rfl : y = x := by simpa using h4
  refine ⟨y, h7, h5, ?_⟩
  subst h2
  have hcell : ∀ j u, y.cells[j]? = some u → wa.cell? ((⟨b, off, none⟩ : Addr).add j) = some u := by
    intro j u hu
    have hadd : (⟨b, off, none⟩ : Addr).add j = ⟨b, off + j, none⟩ := by unfold Addr.add; split <;> simp_all
    rw [hadd, cell_of_row wa b (off + j) _ bt (0, 0) g1, h8]
    have hj : j < y.cells.length := (List.getElem?_eq_some_iff.1 hu).1
    simp only [List.getElem?_toArray, List.append_assoc]
    rw [List.getElem?_append_right (by omega), List.getElem?_append_left (by omega)]
    rw [show off + j - pre.length = j by omega]
    exact hu
  simp only [Instr.loadAt, Instr.sureAddr, loadVar, Sem.run_bind, Sem.run_pure, Result.andThen_ok, isAgg_run ok t hD, sizeOf_run ok t hD]
  cases hag : isAggTy (X.T t) with
  | true =>
    have hlc := run_loadCells_list (P := X.P) wa ⟨b, off, none⟩ y.cells hcell
    rw [shape_size h7] at hlc
    simp only [if_true, Sem.run_bind, sizeOf_run ok t hD, Result.andThen_ok, hlc, Sem.run_pure]
    rw [enc_agg h7 hag]
  | false =>
    have hsc := enc_scalar h7 hag
    have := hcell 0 y.enc (by rw [hsc]; rfl)
    have h0 : (⟨b, off, none⟩ : Addr).add 0 = ⟨b, off, none⟩ := rfl
    rw [h0] at this
    simp [run_load, this]

/-- a load from memory -/
theorem loadVC_cells {a : Addr} {w : World} : ∀ {t : Ty} {off : Nat} {F : SV → Prop}, loadVC a w t off F → ∃ x, x.shape t = true ∧ F x ∧ ∀ j u, x.cells[j]? = some u → w.cell? (a.add (off + j)) = some u := by
  intro t
  induction t using Ty.rec (motive_2 := fun ts => ∀ {off : Nat} {F : List SV → Prop}, loadsVC a w ts off F → ∃ l, SV.shapes l ts = true ∧ F l ∧ ∀ j u, (SV.cellsL l)[j]? = some u → w.cell? (a.add (off + j)) = some u) with
  | int k =>
    intro off F h
    simp only [loadVC, ad_eq] at h
    obtain ⟨n, h1, h2⟩ := h
    refine ⟨.int k n, by simp [SV.shape, ksame_refl], h2, fun j u hu => ?_⟩
    cases j <;> simp [SV.cells] at hu
    subst hu; simpa using h1
  | bool =>
    intro off F h
    simp only [loadVC, ad_eq] at h
    obtain ⟨n, h1, h2⟩ := h
    refine ⟨.bool n, by simp [SV.shape], h2, fun j u hu => ?_⟩
    cases j <;> simp [SV.cells] at hu
    subst hu; simpa using h1
  | str =>
    intro off F h
    simp only [loadVC, ad_eq] at h
    obtain ⟨n, h1, h2⟩ := h
    refine ⟨.str n, by simp [SV.shape], h2, fun j u hu => ?_⟩
    cases j <;> simp [SV.cells] at hu
    subst hu; simpa using h1
  | ptr e =>
    intro off F h
    simp only [loadVC, ad_eq] at h
    obtain ⟨n, h1, h2⟩ := h
    refine ⟨.ptr n, by simp [SV.shape], h2, fun j u hu => ?_⟩
    cases j <;> simp [SV.cells] at hu
    subst hu; simpa using h1
  | slice e =>
    intro off F h
    simp only [loadVC, ad_eq] at h
    obtain ⟨n, h1, h2⟩ := h
    refine ⟨.slice n, by simp [SV.shape], h2, fun j u hu => ?_⟩
    cases j <;> simp [SV.cells] at hu
    subst hu; simpa using h1
  | map =>
    intro off F h
    simp only [loadVC, ad_eq] at h
    obtain ⟨n, h1, h2⟩ := h
    refine ⟨.map n, by simp [SV.shape], h2, fun j u hu => ?_⟩
    cases j <;> simp [SV.cells] at hu
    subst hu; simpa using h1
  | arr k n =>
    intro off F h
    simp only [loadVC] at h
    obtain ⟨f, h1, h2⟩ := h
    refine ⟨.arr k n f, by simp [SV.shape, ksame_refl], h2, fun j u hu => ?_⟩
    simp only [SV.cells, List.getElem?_map, Option.map_eq_some_iff] at hu
    obtain ⟨i, hi, rfl⟩ := hu
    obtain ⟨hlt, e⟩ := List.getElem?_eq_some_iff.1 hi
    simp at e hlt
    subst e
    exact h1 j hlt
  | struct b ts ih =>
    intro off F h
    simp only [loadVC] at h
    obtain ⟨l, h1, h2, h3⟩ := ih h
    exact ⟨.struct l, by simp [SV.shape, h1], h2, fun j u hu => h3 j u (by simpa [SV.cells] using hu)⟩
  | tuple ts ih => intro off F h; simp only [loadVC] at h
  | other => intro off F h; simp only [loadVC] at h
  | nil =>
    rename_i off F h
    simp only [loadsVC] at h
    exact ⟨[], by simp [SV.shapes], h, by simp [SV.cellsL]⟩
  | cons t r ih1 ih2 =>
    rename_i off F h
    simp only [loadsVC] at h
    obtain ⟨x, h1, h2, h3⟩ := ih1 h
    obtain ⟨l, h4, h5, h6⟩ := ih2 h2
    refine ⟨x :: l, by simp [SV.shapes, h1, h4], h5, fun j u hu => ?_⟩
    simp only [SV.cellsL] at hu
    by_cases hj : j < x.cells.length
    · rw [List.getElem?_append_left hj] at hu; exact h3 j u hu
    · rw [List.getElem?_append_right (by omega)] at hu
      have := h6 _ u hu
      rw [shape_size h1] at this hj
      rwa [show off + t.size + (j - t.size) = off + j by omega] at this

theorem mem_load {ad : Addr} {t : Nat} {F : SV → Prop} (ok : TabOK X) {w wa : World} (h : loadVC ad w (X.T t) 0 F) (hD : isData (X.T t) = true) (hcell : ∀ b u, w.cell? b = some u → wa.cell? b = some u) :
    ∃ x, x.shape (X.T t) = true ∧ F x ∧ (Instr.loadAt t (.pointer (some ad))).run X.P wa = .ok x.enc wa := by
  obtain ⟨x, h1, h2, h3⟩ := loadVC_cells h
  refine ⟨x, h1, h2, ?_⟩
  have h3' : ∀ j u, x.cells[j]? = some u → wa.cell? (ad.add j) = some u := fun j u hu => hcell _ _ (by simpa using h3 j u hu)
  simp only [Instr.loadAt, Instr.sureAddr, loadVar, Sem.run_bind, Sem.run_pure, Result.andThen_ok, isAgg_run ok t hD, sizeOf_run ok t hD]
  cases hag : isAggTy (X.T t) with
  | true =>
    have hlc := run_loadCells_list (P := X.P) wa ad x.cells h3'
    rw [shape_size h1] at hlc
    simp only [if_true, Sem.run_bind, sizeOf_run ok t hD, Result.andThen_ok, hlc, Sem.run_pure]
    rw [enc_agg h1 hag]
  | false =>
    have hsc := enc_scalar h1 hag
    have := h3' 0 x.enc (by rw [hsc]; rfl)
    have h0 : ad.add 0 = ad := rfl
    rw [h0] at this
    simp [run_load, this]

theorem loadVC_data {ad : Addr} {w : World} {t : Ty} {F : SV → Prop} (h : loadVC ad w t 0 F) : isData t = true := by
  cases t <;> first | rfl | (simp only [loadVC] at h)
end
end Go.Vc
