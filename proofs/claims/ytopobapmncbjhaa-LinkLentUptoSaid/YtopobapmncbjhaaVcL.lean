import Derived.Test.YtopobapmncbjhaaVcK
namespace Go.Vc
open Go.RowKit (Below)
set_option linter.unusedSimpArgs false
set_option linter.unusedVariables false
set_option autoImplicit false

theorem flat_rep {α : Type} [Inhabited α] (z : List α) : ∀ n, ((List.range (n * z.length)).map fun i => z[i % z.length]!) = (List.replicate n z).flatten
  | 0 => by simp
  | n + 1 => by
    rw [List.replicate_succ', List.flatten_append, ← flat_rep z n, Nat.add_mul, Nat.one_mul, List.range_add, List.map_append, List.map_map]
    congr 1
    simp only [List.flatten_cons, List.flatten_nil, List.append_nil]
    apply List.ext_getElem
    · simp
    · intro i h1 h2
      simp at h1
      simp [Nat.mul_add_mod_of_lt, h1, Nat.mod_eq_of_lt h1]

theorem zeroCells_eq (z : List Value) (n : Nat) : Builtin.zeroCells z.toArray n = (List.replicate n z).flatten.toArray := by
  rw [← flat_rep z n]
  unfold Builtin.zeroCells
  apply Array.ext'
  simp [Array.toList_map]

theorem live_box {s : St} {b : Nat} (h : b ∈ s.live) : ∃ i t c, s.bx i = some (.box b t c) := by
  have : ∀ l, b ∈ s.liveFrom l → ∃ i t c, s.bx i = some (.box b t c) := by
    intro l
    induction l with
    | nil => intro h; cases h
    | cons i l ih =>
      intro h
      simp only [St.liveFrom] at h
      split at h
      · rename_i b' t c hb'
        rcases List.mem_cons.1 h with rfl | h
        · exact ⟨i, t, c, hb'⟩
        · exact ih h
      · exact ih h
  exact this _ h

section
variable {X : Tab} (ok : TabOK X) {N : Nat} {s : St} {w : World} {a : Act} {wa : World} {o : Oper} {K : St → World → Prop} {Q : Exit → Act → World → Prop}

theorem full_zero {e : Nat} (ok : TabOK X) (h : isFull (X.T e) = true) : ∃ z i, (X.T e).zero = some z ∧ isData (X.T e) = true ∧ X.P.info? e = some i ∧ i.size = (X.T e).size ∧ i.bytes = X.B e ∧ i.zero = some z.enc ∧ z.shape (X.T e) = true ∧ z.enc.cells = z.cells.toArray ∧ z.cells.length = (X.T e).size := by
  unfold isFull at h
  split at h
  · rename_i z hz
    obtain ⟨i, h1, h2, h3, h4⟩ := ok.info e h
    have hs := zero_shape hz
    exact ⟨z, i, hz, h, h1, h2, h3, h4 z hz, hs, enc_cells hs, shape_size hs⟩
  · cases h

theorem zerosOf_eq {t : Ty} {z : SV} (hz : t.zero = some z) (n : Nat) : zerosOf t n = (List.replicate n z.cells).flatten := by simp [zerosOf, hz]

theorem firstCells_row {P : Program} {w : World} {x : Sl} {sz n : Nat} {l : List Value} (h : RowAt w x.ptr (n * sz) l) : (Builtin.firstCells sz n x.val).run P w = .ok l.toArray w := by
  unfold RowAt at h
  obtain ⟨p, len, cap⟩ := x
  cases p with
  | none => simp only at h; subst h; simp [Builtin.firstCells, Sl.val]
  | some a =>
    simp only at h
    obtain ⟨h1, h2, _⟩ := h
    have := run_loadCells_list (P := P) w a l (fun j v hv => by obtain ⟨hj, e⟩ := List.getElem?_eq_some_iff.1 hv; rw [← e]; exact h2 j hj)
    rw [h1] at this
    simp [Builtin.firstCells, Sl.val, this]

theorem row_one {w : World} {p : Option Addr} {n : Nat} {l : List Value} (h : RowAt w p n l) : ∀ v ∈ l, v.oneCell' = true := by
  unfold RowAt at h
  cases p with
  | none => simp only at h; subst h; simp
  | some a => exact h.2.2


/-- what an append comes to, once its new cells are known -/
theorem appendN_sound {e : Nat} (hf : isFull (X.T e) = true) (ok : TabOK X) {p : Sl} {n : Nat} {new : List Value} (hone : ∀ v ∈ new, v.oneCell' = true) {bs : List Nat} {F : Sl → World → Prop}
    (h : AppendN e (X.T e).size (X.B e) p n new bs wa F) :
    (p.len + n ≤ p.cap ∧ ∃ w2, (∀ r : World → Result Value, (match p.ptr with | some a => (storeCells (a.add (p.len * (X.T e).size)) new).run X.P wa | none => .ok () wa) = .ok () w2) ∧ F ⟨p.ptr, p.len + n, p.cap⟩ w2 ∧ ∀ b ∈ bs, w2.heap[b]? = wa.heap[b]?) ∨
    (p.cap < p.len + n ∧ p.len + n ≤ 9223372036854775807 ∧ Builtin.nextslicecap (p.len + n) p.cap * X.B e ≤ 281474976710656 ∧
      ∃ old z, (X.T e).zero = some z ∧ (Builtin.firstCells (X.T e).size p.len p.val).run X.P wa.drew = .ok old wa.drew ∧ 
        ∀ cap, p.len + n ≤ cap → F ⟨some ⟨wa.heap.size, 0, none⟩, p.len + n, cap⟩ (wa.drew.alloc (.cells (old ++ new.toArray ++ Builtin.zeroCells z.cells.toArray (cap - (p.len + n))) e))) := by
  obtain ⟨z, i, hz1, hD, hi, hi1, hi2, hi3, hzs1, hzs2, hzs3⟩ := full_zero ok hf
  by_cases hroom : p.len + n ≤ p.cap
  · left
    refine ⟨hroom, ?_⟩
    have h1 := h.1 hroom
    obtain ⟨ptr, len, cap⟩ := p
    cases ptr with
    | none => exact ⟨wa, fun _ => rfl, h1, fun _ _ => rfl⟩
    | some ad =>
      simp only at h1
      obtain ⟨hc, hb, hF⟩ := h1
      refine ⟨_, fun _ => store_run hone hc, hF, fun b hb' => setCells_heap _ _ _ _ _ ?_⟩
      rintro rfl
      exact hb hb'
  · right
    obtain ⟨h1, h2, old, h3, h4⟩ := h.2 (by omega)
    refine ⟨by omega, h1, h2, old.toArray, z, hz1, ?_, fun cap hcap => ?_⟩
    · have hrow : RowAt wa.drew p.ptr (p.len * (X.T e).size) old := h3
      exact firstCells_row hrow
    · refine h4 cap wa.heap.size _ _ hcap ?_ (heap_alloc_new wa.drew _) ?_ ?_
      · exact ⟨rfl, rfl, rfl, by simp, fun k hk _ => Below.heap_alloc wa.drew _ k hk, by simp⟩
      · simp only [zeroCells_eq, Array.toList_append, List.append_assoc, List.toList_toArray]
        rw [← List.append_assoc, ← List.length_append]
        exact List.take_left
      · simp [size_zeroCells, hzs3, Nat.add_assoc]

include ok in
theorem append_sl_wp {c : Call} {t u e e2 : Nat} {x y : Operand} {p q : Sl} (hop : o.op = .call c) (hcal : c.callee = .builtin .append) (hat : c.argTypes.toList = [t, u]) (hag : c.args.toList = [x, y])
    (ht : X.T t = .slice e) (hu : X.T u = .slice e2) (hx : s.ev x = some (.slice p)) (hy : s.ev y = some (.slice q)) (hf : isFull (X.T e) = true) (hr : Rel X N s w a wa) (hd : ∀ t, o.dst = some t → t < N)
    (h : s.flush w fun s w => Append e (X.T e).size (X.B e) p q s.live w fun r w => K (s.putD o.dst (.slice r)) w) : o.wp X.P a wa (OpPost X N K s o a) Q := by
  obtain ⟨new, hrow, hN⟩ := flush_sound h hr
  rw [live_clean] at hN
  have hT := ok.ty t; rw [ht] at hT; simp only [tyOK] at hT
  have hU := ok.ty u; rw [hu] at hU; simp only [tyOK] at hU
  have hxv := hr.ev x _ hx
  have hyv := hr.ev y _ hy
  simp only [RelV, SV.enc] at hxv hyv
  obtain ⟨z, i, hz1, hD, hi, hi1, hi2, hi3, hzs1, hzs2, hzs3⟩ := full_zero ok hf
  have ha1 : c.args = #[x, y] := by apply Array.ext'; simpa using hag
  have ha2 : c.argTypes = #[t, u] := by apply Array.ext'; simpa using hat
  have hone := row_one hrow
  have hfc := firstCells_row (P := X.P) hrow
  have hrow' : RowAt wa.drew q.ptr (q.len * (X.T e).size) new := hrow
  have hfc' := firstCells_row (P := X.P) hrow'
  obtain ⟨pp, pl, pc⟩ := p
  obtain ⟨qp, ql, qc⟩ := q
  simp only [Sl.val] at *
  rcases appendN_sound hf ok hone hN with ⟨hroom, w2, hst, hF, hk⟩ | ⟨hroom, h1, h2, old, z', hz', hold, hF⟩
  · simp only at hroom hst hF hk
    have hrun : (execOp a.eval o).run X.P wa = .ok (.value (.slice pp (pl + ql) pc)) w2 := by
      cases pp with
      | none =>
        have := hst fun w => .ok undef w
        simp only at this
        cases this
        simp [execOp, hop, resolve, hcal, ha1, ha2, hxv, hyv, invoke, builtin, Builtin.append_, run_underlying hT, run_underlying hU, sizeOf_run ok e hD, Builtin.lenOf, hroom, hfc]
      | some ad =>
        have := hst fun w => .ok undef w
        simp only at this
        simp [execOp, hop, resolve, hcal, ha1, ha2, hxv, hyv, invoke, builtin, Builtin.append_, run_underlying hT, run_underlying hU, sizeOf_run ok e hD, Builtin.lenOf, hroom, hfc, this]
    unfold Oper.wp
    rw [hrun, Oper.upon_value]
    exact world_post hr.clean hd rfl (fun _ _ => rfl) rfl rfl hk hF
  · simp only [Sl.val] at hroom h1 h2 hold hF
    rw [hz1] at hz'
    cases hz'
    have hrun : (execOp a.eval o).run X.P wa = .ok (.value (.slice (some ⟨wa.heap.size, 0, none⟩) (pl + ql) (grownCap wa (pl + ql) pc e))) (wa.drew.alloc (.cells (old ++ new.toArray ++ Builtin.zeroCells z.cells.toArray (grownCap wa (pl + ql) pc e - (pl + ql))) e)) := by
      have e1 : ¬ (pl + ql ≤ pc) := by omega
      have e2 : ¬ (9223372036854775807 < ((pl : Int) + (ql : Int))) := by omega
      have e3 : ¬ (281474976710656 < Builtin.nextslicecap (pl + ql) pc * X.B e) := by omega
      simp [execOp, hop, resolve, hcal, ha1, ha2, hxv, hyv, invoke, builtin, Builtin.append_, run_underlying hT, run_underlying hU, sizeOf_run ok e hD, Builtin.lenOf, e1, e2, e3, typeInfo, hi, hi2, h2, zeroValue, hi3, hzs2, Question.forced, hold, hfc', newRow, grownCap]
    unfold Oper.wp
    rw [hrun, Oper.upon_value]
    exact world_post hr.clean hd rfl (fun _ _ => rfl) rfl rfl (fun b hb => (by
      obtain ⟨i', t', c', hb'⟩ := live_box hb
      exact Below.heap_alloc wa.drew _ b (Array.getElem?_eq_some_iff.1 (hr.bx i' b t' c' hb').2.1).1)) (hF _ (grownCap_ge _ _ _ _))

include ok in
theorem append_z_wp {c : Call} {t u e : Nat} {x y : Operand} {p : Sl} {n : Int} (hop : o.op = .call c) (hcal : c.callee = .builtin .append) (hat : c.argTypes.toList = [t, u]) (hag : c.args.toList = [x, y])
    (ht : X.T t = .slice e) (hu : X.T u = .int .i64) (hx : s.ev x = some (.slice p)) (hy : s.ev y = some (.int .i64 n)) (hf : isFull (X.T e) = true) (hr : Rel X N s w a wa) (hd : ∀ t, o.dst = some t → t < N)
    (h : s.flush w fun s w => Need (decide (0 ≤ n) && decide (n ≤ 281474976710656) && decide (n * (X.B e : Int) ≤ 281474976710656)) (AppendN e (X.T e).size (X.B e) p n.toNat (zerosOf (X.T e) n.toNat) s.live w fun r w => K (s.putD o.dst (.slice r)) w)) : o.wp X.P a wa (OpPost X N K s o a) Q := by
  have h' := flush_sound h hr
  simp only [Need_iff, Bool.and_eq_true, decide_eq_true_eq] at h'
  obtain ⟨⟨⟨h0, hn48⟩, hb⟩, hN⟩ := h'
  rw [live_clean] at hN
  have hT := ok.ty t; rw [ht] at hT; simp only [tyOK] at hT
  have hU := ok.ty u; rw [hu] at hU; simp only [tyOK] at hU
  have hxv := hr.ev x _ hx
  have hyv := hr.ev y _ hy
  simp only [RelV, SV.enc] at hxv hyv
  obtain ⟨z, i, hz1, hD, hi, hi1, hi2, hi3, hzs1, hzs2, hzs3⟩ := full_zero ok hf
  have ha1 : c.args = #[x, y] := by apply Array.ext'; simpa using hag
  have ha2 : c.argTypes = #[t, u] := by apply Array.ext'; simpa using hat
  have hzeq := zerosOf_eq hz1 n.toNat
  have hzc := zeroCells_eq z.cells n.toNat
  have hone : ∀ v ∈ zerosOf (X.T e) n.toNat, v.oneCell' = true := by
    rw [hzeq]
    intro v hv
    obtain ⟨l, hl, hv⟩ := List.mem_flatten.1 hv
    rw [List.eq_of_mem_replicate hl] at hv
    exact cells_one hzs1 v hv
  have hw : IntKind.i64.wrap n = n := by unfold IntKind.wrap; simp [IntKind.bits, IntKind.signed]; omega
  have hnil : n.toNat * (X.T e).size = 0 → zerosOf (X.T e) n.toNat = [] := by
    intro h00
    rw [hzeq]
    rw [← hzs3] at h00
    apply List.eq_nil_of_length_eq_zero
    simp [List.length_flatten, h00]
  have hzc' : Builtin.zeroCells z.cells.toArray n.toNat = (zerosOf (X.T e) n.toNat).toArray := by rw [hzc, hzeq]
  obtain ⟨pp, pl, pc⟩ := p
  simp only [Sl.val] at *
  have e0 : ¬ (n < 0) := by omega
  have eb : ¬ (281474976710656 < n * (X.B e : Int)) := by omega
  rcases appendN_sound hf ok hone hN with ⟨hroom, w2, hst, hF, hk⟩ | ⟨hroom, h1, h2, old, z', hz', hold, hF⟩
  · simp only at hroom hst hF hk
    have hrun : (execOp a.eval o).run X.P wa = .ok (.value (.slice pp (pl + n.toNat) pc)) w2 := by
      have := hst fun w => .ok undef w
      by_cases h00 : n.toNat * (X.T e).size = 0
      · rw [hnil h00] at this
        cases pp with
        | none =>
          simp only at this
          cases this
          simp [execOp, hop, resolve, hcal, ha1, ha2, hxv, hyv, invoke, builtin, Builtin.append_, run_underlying hT, run_underlying hU, sizeOf_run ok e hD, asInt, asIntOf, hw, e0, typeInfo, hi, hi2, eb, hroom, h00]
        | some ad =>
          simp only at this
          simp [execOp, hop, resolve, hcal, ha1, ha2, hxv, hyv, invoke, builtin, Builtin.append_, run_underlying hT, run_underlying hU, sizeOf_run ok e hD, asInt, asIntOf, hw, e0, typeInfo, hi, hi2, eb, hroom, h00, this]
      · cases pp with
        | none =>
          simp only at this
          cases this
          simp [execOp, hop, resolve, hcal, ha1, ha2, hxv, hyv, invoke, builtin, Builtin.append_, run_underlying hT, run_underlying hU, sizeOf_run ok e hD, asInt, asIntOf, hw, e0, typeInfo, hi, hi2, eb, hroom, h00, zeroValue, hi3]
        | some ad =>
          simp only at this
          simp [execOp, hop, resolve, hcal, ha1, ha2, hxv, hyv, invoke, builtin, Builtin.append_, run_underlying hT, run_underlying hU, sizeOf_run ok e hD, asInt, asIntOf, hw, e0, typeInfo, hi, hi2, eb, hroom, h00, zeroValue, hi3, hzs2, hzc', this]
    unfold Oper.wp
    rw [hrun, Oper.upon_value]
    exact world_post hr.clean hd rfl (fun _ _ => rfl) rfl rfl hk hF
  · simp only [Sl.val] at hroom h1 h2 hold hF
    rw [hz1] at hz'
    cases hz'
    have hrun : (execOp a.eval o).run X.P wa = .ok (.value (.slice (some ⟨wa.heap.size, 0, none⟩) (pl + n.toNat) (grownCap wa (pl + n.toNat) pc e))) (wa.drew.alloc (.cells (old ++ (zerosOf (X.T e) n.toNat).toArray ++ Builtin.zeroCells z.cells.toArray (grownCap wa (pl + n.toNat) pc e - (pl + n.toNat))) e)) := by
      have e1 : ¬ (pl + n.toNat ≤ pc) := by omega
      have e2 : ¬ (9223372036854775807 < ((pl : Int) + max n 0)) := by omega
      have e3 : ¬ (281474976710656 < Builtin.nextslicecap (pl + n.toNat) pc * X.B e) := by omega
      by_cases h00 : n.toNat * (X.T e).size = 0
      · rw [hnil h00]
        simp [execOp, hop, resolve, hcal, ha1, ha2, hxv, hyv, invoke, builtin, Builtin.append_, run_underlying hT, run_underlying hU, sizeOf_run ok e hD, asInt, asIntOf, hw, e0, typeInfo, hi, hi2, eb, e1, e2, e3, h00, Question.forced, hold, newRow, grownCap, zeroValue, hi3, hzs2]
      · simp [execOp, hop, resolve, hcal, ha1, ha2, hxv, hyv, invoke, builtin, Builtin.append_, run_underlying hT, run_underlying hU, sizeOf_run ok e hD, asInt, asIntOf, hw, e0, typeInfo, hi, hi2, eb, e1, e2, e3, h00, Question.forced, hold, newRow, grownCap, zeroValue, hi3, hzs2, hzc']
    unfold Oper.wp
    rw [hrun, Oper.upon_value]
    exact world_post hr.clean hd rfl (fun _ _ => rfl) rfl rfl (fun b hb => (by
      obtain ⟨i', t', c', hb'⟩ := live_box hb
      exact Below.heap_alloc wa.drew _ b (Array.getElem?_eq_some_iff.1 (hr.bx i' b t' c' hb').2.1).1)) (hF _ (grownCap_ge _ _ _ _))
end
end Go.Vc
