import Derived.Test.YtopobapmncbjhaaVcM
namespace Go.Vc
open Go.RowKit (Below)
set_option linter.unusedSimpArgs false
set_option linter.unusedVariables false
set_option autoImplicit false

section
variable {X : Tab} (ok : TabOK X) {N : Nat} {s : St} {w : World} {a : Act} {wa : World} {o : Oper} {K : St → World → Prop} {Q : Exit → Act → World → Prop}

theorem path_nil (t : Ty) : PathAt t [] 0 t := by cases t <;> exact ⟨rfl, rfl⟩
theorem newBox_shape (s : St) (b t : Nat) (c : SV) : (s.newBox b t c).bx = (s.putB s.nb (some (.box b t c))).bx ∧ (s.newBox b t c).nb = s.nb + 1 := ⟨rfl, rfl⟩

/-- a new local struct -/
theorem box_post (hr : Rel X N s w a wa) (hd : ∀ t, o.dst = some t → t < N) {t : Nat} {c : SV} (hc : c.shape (X.T t) = true) {s0 : St} (h0 : s0.nb = s.nb) (hbx : escapes s0 o = false → s.bx = s0.bx)
    (h : ∀ b, K ((s.newBox b t c).putD o.dst (.lptr s.nb 0 [])) w) : OpPost X N K s0 o a (a.put o.dst (.pointer (some ⟨wa.heap.size, 0, none⟩))) (wa.alloc (.cells c.cells.toArray t)) := by
  have hb := hr.newBox t c hc
  refine ⟨_, w, h wa.heap.size, hb.putD hd ?_ ?_, by rw [putD_nb, h0]; simp [St.newBox], fun _ he i hi => ?_, _, rfl⟩
  · intro b' t' c' hbx'
    have : (s.newBox wa.heap.size t c).bx s.nb = some (.box wa.heap.size t c) := by simp [St.newBox, St.putB]
    rw [this] at hbx'
    cases hbx'
    exact ⟨rfl, _, path_nil _⟩
  · intro id off p e
    cases e
    simp [St.newBox]
  · rw [putD_bx]
    have hne : Nat.beq i s.nb = false := nbeq_false.2 (by omega)
    simp only [St.newBox, St.putB, hne]
    exact congrFun (hbx he) i

include ok in
theorem alloc_wp {t : Nat} (hop : o.op = .alloc t) (hr : Rel X N s w a wa) (hd : ∀ t, o.dst = some t → t < N) (h : ifSome ((X.T t).zero) fun z => ∀ b, K ((s.newBox b t z).putD o.dst (.lptr s.nb 0 [])) w) : o.wp X.P a wa (OpPost X N K s o a) Q := by
  obtain ⟨z, hz, hK⟩ := ifSome_iff.1 h
  have hs := zero_shape hz
  have hD : isData (X.T t) = true := by cases hT : X.T t <;> rw [hT] at hz <;> first | rfl | simp [Ty.zero] at hz
  obtain ⟨i, h1, h2, h3, h4⟩ := ok.info t hD
  have hrun : (execOp a.eval o).run X.P wa = .ok (.value (.pointer (some ⟨wa.heap.size, 0, none⟩))) (wa.alloc (.cells z.cells.toArray t)) := by
    simp [execOp, hop, Instr.alloc, zeroValue, typeInfo, h1, h4 z hz, newVar, newRow, enc_cells hs]
  unfold Oper.wp
  rw [hrun, Oper.upon_value]
  exact box_post hr hd hs rfl (fun _ => rfl) hK

/-- a value that does not escape is a plain one -/
theorem lptrs_one {v : SV} (h : lptrs [v] = []) : ∀ id off p, v ≠ .lptr id off p := by rintro id off p rfl; simp [lptrs] at h

theorem box_wp {t : Nat} {x : Operand} (hop : o.op = .box t x) (hr : Rel X N s w a wa) (hd : ∀ t, o.dst = some t → t < N) {v0 : SV} (hx0 : s.ev x = some v0)
    (h : s.esc w [v0] fun s w => ifSome (s.ev x) fun v => match v.shape (X.T t) with
      | true => ∀ b, K ((s.newBox b t v).putD o.dst (.lptr s.nb 0 [])) w
      | false => False) : o.wp X.P a wa (OpPost X N K s o a) Q := by
  obtain ⟨s', w', h1, h2, h3, h4, h5⟩ := esc_sound h hr
  obtain ⟨v, hv, h6⟩ := ifSome_iff.1 h1
  split at h6
  · rename_i hs
    have hxv := h2.ev x v hv
    rw [relv_shape hs] at hxv
    have hrun : (execOp a.eval o).run X.P wa = .ok (.value (.pointer (some ⟨wa.heap.size, 0, none⟩))) (wa.alloc (.cells v.cells.toArray t)) := by
      simp [execOp, hop, Instr.box, newVar, newRow, hxv, enc_cells hs]
    unfold Oper.wp
    rw [hrun, Oper.upon_value]
    refine box_post h2 hd hs h3.symm (fun he => ?_) h6
    have : lptrs [v0] = [] := by
      simp [escapes, hop, hx0] at he
      exact plain_lptrs (by simp [allPlain, he])
    rw [(h4 this).1]
  · cases h6

include ok in
theorem store_wp {t : Nat} {ad x : Operand} (hop : o.op = .store t ad x) (hr : Rel X N s w a wa) (hd : ∀ t, o.dst = some t → t < N) {v0 : SV} (hx0 : s.ev x = some v0)
    (h : s.esc w [v0] fun s w => ifSome (s.ev x) fun v =>
      match v.shape (X.T t) with
      | true => match s.ev ad with
        | some (.lptr id _ p) => match s.bx id with
          | some (.box b bt c) => match lIs X s id p t with
            | true => ifSome (setPath c p v) fun c' => K ((s.putB id (some (.box b bt c'))).touch id b) w
            | false => False
          | _ => False
        | some (.ptr p) => deref p fun a => s.flush w fun s w => Store w a v.cells s.live fun w1 => K s w1
        | _ => False
      | false => False) (hdst : o.dst = none) : o.wp X.P a wa (OpPost X N K s o a) Q := by
  obtain ⟨s', w', h1, h2, h3, h4, h5⟩ := esc_sound h hr
  obtain ⟨v, hv, h6⟩ := ifSome_iff.1 h1
  have hst : isStore o = true := by simp [isStore, hop]
  split at h6
  case h_2 => cases h6
  rename_i hs
  have hxv := h2.ev x v hv
  rw [relv_shape hs] at hxv
  have hD : isData (X.T t) = true := by cases hT : X.T t <;> rw [hT] at hs <;> first | rfl | (cases v <;> simp [SV.shape] at hs)
  have hsz := sizeOf_run ok t hD wa
  have hone := cells_one hs
  have hvar : ∀ q : Addr, (∀ i, i < v.cells.length → (wa.cell? (q.add i)).isSome = true ∧ wa.frozen? (q.add i) = false) → a.eval ad = .pointer (some q) → (execOp a.eval o).run X.P wa = .ok .skip (wa.setCells q.block q.off v.cells) := by
    intro q hq hq2
    have := store_run (P := X.P) hone hq
    simp [execOp, hop, Instr.storeAt, Instr.sureAddr, storeVar, hq2, hxv, enc_cells hs, hsz, shape_size hs, this]
  have hput : a.put o.dst undef = a := by rw [hdst]; rfl
  split at h6
  · rename_i id off p e1
    have hav := h2.ev ad _ e1
    split at h6
    · rename_i b bt c hb
      split at h6
      · rename_i hl
        obtain ⟨c', hc', hK⟩ := ifSome_iff.1 h6
        obtain ⟨b', bt', c'', g1, g2, g3⟩ := lIs_path hav hl
        rw [hb] at g1
        cases g1
        obtain ⟨k1, k2, k3⟩ := h2.bx id b bt c hb
        obtain ⟨y, hy, hys, pre, post, m1, m2, m3⟩ := path_get k3 g3
        obtain ⟨n1, n2⟩ := m3 v c' hs hc'
        have hadd : ∀ j, (⟨b, off, none⟩ : Addr).add j = ⟨b, off + j, none⟩ := fun j => by unfold Addr.add; split <;> simp_all
        have hlen : y.cells.length = v.cells.length := by rw [shape_size hys, shape_size hs]
        have hrun := hvar ⟨b, off, none⟩ (fun i hi => by
          rw [hadd]
          refine ⟨?_, by simp [World.frozen?, k2]⟩
          rw [cell_of_row wa b (off + i) _ bt (0, 0) k2, m1]
          simp; omega) g2
        unfold Oper.wp
        rw [hrun, Oper.upon_skip, hput]
        have hrow := setCells_at b bt (0, 0) v.cells pre y.cells post wa (by rw [← m1]; exact k2) hlen
        rw [m2, ← n2] at hrow
        have hset := h2.setBox hb n1 hrow (fun k hk => setCells_heap _ _ _ _ _ hk) (setCells_size _ _ _ _) (setCells_os _ _ _ _).1 (setCells_os _ _ _ _).2.1 (setCells_os _ _ _ _).2.2
        refine ⟨_, w', hK, hset, ?_, (fun hns => by rw [hst] at hns; cases hns), undef, hput.symm⟩
        rw [← h3]
        unfold St.touch
        split <;> exact Nat.le_refl _
      · cases h6
    · cases h6
  · rename_i p e1
    have hav := h2.ev ad _ e1
    simp only [RelV, SV.enc] at hav
    obtain ⟨q, rfl, h7⟩ := deref_iff.1 h6
    obtain ⟨g1, g2, g3⟩ := flush_sound h7 h2
    have hrun := hvar q g1 hav
    unfold Oper.wp
    rw [hrun, Oper.upon_skip, hput]
    refine ⟨_, _, g3, ?_, by rw [← h3]; exact Nat.le_refl _, (fun hns => by rw [hst] at hns; cases hns), undef, hput.symm⟩
    exact h2.clean.world (fun i b t c hb => setCells_heap _ _ _ _ _ (by
      rintro rfl
      rw [live_clean] at g2
      exact g2 (live_of hb (h2.bx i _ t c hb).1)))
  · cases h6

include ok in
theorem load_wp {t : Nat} {x : Operand} (hop : o.op = .load t x) (hr : Rel X N s w a wa) (hd : ∀ t, o.dst = some t → t < N)
    (h : match s.ev x with
    | some (.ptr p) => deref p fun a => s.look w fun s w => loadVC a w (X.T t) 0 fun v => K (s.putD o.dst v) w
    | _ => pureVC X s o fun v => K (s.putD o.dst v) w) : o.wp X.P a wa (OpPost X N K s o a) Q := by
  split at h
  · rename_i p e1
    have hxv := hr.ev x _ e1
    simp only [RelV, SV.enc] at hxv
    obtain ⟨ad, rfl, h1⟩ := deref_iff.1 h
    obtain ⟨s', w', h2, h3, h4, e1, e2, e3, _⟩ := look_sound h1 hr
    obtain ⟨v, h5, h6, h7⟩ := mem_load ok h2 (loadVC_data h2) (fun b u hu => h4.cell hu (by simp))
    have hrun : (execOp a.eval o).run X.P wa = .ok (.value v.enc) wa := by simp [execOp, hop, hxv, h7]
    unfold Oper.wp
    rw [hrun, Oper.upon_value]
    exact ⟨_, w', h6, h3.putD hd ((relv_shape h5).2 rfl) (fun id off p e => by subst e; simp [SV.shape] at h5), by rw [putD_nb, e3]; exact Nat.le_refl _, fun _ _ i _ => by rw [putD_bx, e2], _, rfl⟩
  · unfold pureVC at h
    simp only [hop] at h
    split at h
    · rename_i id off p e1
      split at h
      · rename_i hl
        have hxv := hr.ev x _ e1
        obtain ⟨b, bt, c, g1, g2, g3⟩ := lIs_path hxv hl
        obtain ⟨_, k2, k3⟩ := hr.bx id b bt c g1
        have hD : isData (X.T t) = true := by
          obtain ⟨y, hy, hys, _⟩ := path_get k3 g3
          cases hT : X.T t <;> rw [hT] at hys <;> first | rfl | (cases y <;> simp [SV.shape] at hys)
        obtain ⟨v, h5, h6, h7⟩ := box_load (F := fun v => K (s.putD o.dst v) w) ok (fun b t c hb => (hr.bx _ b t c hb).2) hxv hl hD h
        have hrun : (execOp a.eval o).run X.P wa = .ok (.value v.enc) wa := by simp [execOp, hop, h7]
        exact value_wp hr hd ((relv_shape h5).2 rfl) (fun id off p e => by subst e; simp [SV.shape] at h5) hrun h6
      · cases h
    · cases h

include ok in
theorem buildSlice_wp {t e n : Nat} {parts : Array (Nat × Operand)} {l0 : List (Nat × SV)} (hop : o.op = .buildSlice t n parts) (ht : X.T t = .slice e) (hl0 : s.evParts parts.toList = some l0) (hr : Rel X N s w a wa) (hd : ∀ t, o.dst = some t → t < N)
    (h : s.esc w (l0.map (·.2)) fun s w => match s.evParts parts.toList with
      | some l => match (Ty.struct true (List.replicate n (X.T e))).zero with
        | some z => ifSome (buildSV (.struct true (List.replicate n (X.T e))) z l) fun c => s.newRow w c.cells e fun s b w => K (s.putD o.dst (.slice ⟨some ⟨b, 0, none⟩, n, n⟩)) w
        | none => False
      | none => False) (hn : n * (X.T e).size ≤ 16777216) (hf : isFull (X.T e) = true) : o.wp X.P a wa (OpPost X N K s o a) Q := by
  obtain ⟨s', w', h1, h2, h3, h4, h5⟩ := esc_sound h hr
  split at h1
  case h_2 => cases h1
  rename_i l hl
  split at h1
  case h_2 => cases h1
  rename_i z hz
  obtain ⟨c, hc, h6⟩ := ifSome_iff.1 h1
  obtain ⟨hK, hrel⟩ := newRow_sound h6 h2
  have hzs := zero_shape hz
  have hT := ok.ty t; rw [ht] at hT; simp only [tyOK] at hT
  obtain ⟨ze, i, hz1, hD, hi, hi1, hi2, hi3, hzs1, hzs2, hzs3⟩ := full_zero ok hf
  have hpl := evParts_sound h2.ev hl (buildSV_plain hc)
  obtain ⟨hcs, hfill⟩ := fill_sound (place := fun i => some (i * (X.T e).size, (X.T e).size)) (t := .struct true (List.replicate n (X.T e))) (by
    intro i u hu
    simp only [partTy] at hu
    have hin : i < n := by
      rw [nth_eq] at hu
      have := (List.getElem?_eq_some_iff.1 hu).1
      simpa using this
    rw [nth_replicate _ _ _ hin] at hu
    obtain rfl : X.T e = u := by simpa using hu
    simp [placeOff, off_replicate _ _ _ (Nat.le_of_lt hin)]) hzs hc
  have hzc : z.cells = (List.replicate n ze.cells).flatten := by
    simp only [Ty.zero] at hz
    cases hzz : Ty.zeros (List.replicate n (X.T e)) with
    | none => simp [hzz] at hz
    | some m =>
      simp [hzz] at hz
      subst hz
      simp only [SV.cells, cellsL_eq]
      have : m = List.replicate n ze := by
        clear hpl hfill hcs hzs h6 hc hK hrel h hn hop h1
        induction n generalizing m with
        | zero => simp [Ty.zeros] at hzz; subst hzz; rfl
        | succ k ih =>
          simp only [List.replicate_succ, Ty.zeros, hz1] at hzz
          cases hk : Ty.zeros (List.replicate k (X.T e)) with
          | none => simp [hk] at hzz
          | some m' =>
            simp [hk] at hzz
            subst hzz
            rw [ih m' hk]; rfl
      subst this
      simp [List.flatMap_replicate]
  have hzz : ((Array.range (n * (X.T e).size)).map fun i => ze.cells.toArray[i % ze.cells.toArray.size]!) = z.cells.toArray := by
    rw [hzc, ← flat_rep ze.cells n, ← hzs3]
    apply Array.ext'
    simp [Array.toList_map]
  have hm : (parts.map fun (p : Nat × Operand) => (p.1, a.eval p.2)).toList = l.map fun p => (p.1, p.2.enc) := by rw [← hpl]; simp
  have hrun : (execOp a.eval o).run X.P wa = .ok (.value (.slice (some ⟨wa.heap.size, 0, none⟩) n n)) (wa.alloc (.cells c.cells.toArray e)) := by
    have e0 : ¬ (16777216 < n * (X.T e).size) := by omega
    have hexec : (execOp a.eval o) = (do pure (.value (← Instr.buildSlice t n (parts.map fun (p : Nat × Operand) => (p.1, a.eval p.2))))) := by simp only [execOp, hop]
    rw [hexec]
    by_cases h00 : n * (X.T e).size = 0
    · have hz0 : z.cells = [] := by
        rw [hzc]
        rw [← hzs3] at h00
        apply List.eq_nil_of_length_eq_zero
        simp [List.length_flatten, h00]
      have hr0 : Array.range (n * (X.T e).size) = #[] := by rw [h00]; rfl
      rw [hz0] at hfill
      simp only [Instr.buildSlice, Sem.run_bind, run_underlying hT, Result.andThen_ok, sizeOf_run ok e hD, hm]
      have hr1 : Array.map (fun _ => (default : Value)) (Array.range 0) = #[] := by rw [show Array.range 0 = #[] from rfl]; simp
      simp [e0, h00, hr0, hr1, hfill, newRow]
    · simp only [Instr.buildSlice, Sem.run_bind, run_underlying hT, Result.andThen_ok, sizeOf_run ok e hD, hm]
      rw [if_neg h00]
      have e0' : ¬ (n * (X.T e).size > 2 ^ 24) := by omega
      rw [if_neg e0']
      simp only [Sem.run_bind, zeroValue, typeInfo, run_program, Result.andThen_ok, hi, Sem.run_pure, hi3, hzs2]
      simp only [hzz, hfill, newRow, Sem.run_bind, run_newObj_alloc, Result.andThen_ok, Sem.run_pure]
  unfold Oper.wp
  rw [hrun, Oper.upon_value]
  refine ⟨_, _, hK, hrel.putD hd rfl (fun _ _ _ e => by cases e), by rw [putD_nb, ← h3]; exact Nat.le_refl _, fun _ he i _ => ?_, _, rfl⟩
  rw [putD_bx]
  have : lptrs (l0.map (·.2)) = [] := by
    simp [escapes, hop, hl0] at he
    exact plain_lptrs he
  rw [(h4 this).1]
  rfl
end
end Go.Vc
