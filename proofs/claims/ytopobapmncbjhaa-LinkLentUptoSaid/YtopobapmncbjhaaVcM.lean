import Derived.Test.YtopobapmncbjhaaVcL
namespace Go.Vc
open Go.RowKit (Below)
set_option linter.unusedSimpArgs false
set_option linter.unusedVariables false
set_option autoImplicit false

section
variable {X : Tab} (ok : TabOK X) {N : Nat} {s : St} {w : World} {a : Act} {wa : World} {o : Oper} {K : St → World → Prop} {Q : Exit → Act → World → Prop}

include ok in
theorem copy_wp {c : Call} {t u e e2 : Nat} {x y : Operand} {p q : Sl} (hop : o.op = .call c) (hcal : c.callee = .builtin .copy) (hat : c.argTypes.toList = [t, u]) (hag : c.args.toList = [x, y])
    (ht : X.T t = .slice e) (hu : X.T u = .slice e2) (hx : s.ev x = some (.slice p)) (hy : s.ev y = some (.slice q)) (hD : isData (X.T e) = true) (hr : Rel X N s w a wa) (hd : ∀ t, o.dst = some t → t < N)
    (h : s.flush w fun s w => Copy (X.T e).size p q s.live w fun w => K (s.putD o.dst (.int .i64 (Nat.min q.len p.len : Nat))) w) : o.wp X.P a wa (OpPost X N K s o a) Q := by
  obtain ⟨new, hrow, hN⟩ := flush_sound h hr
  rw [live_clean] at hN
  have hT := ok.ty t; rw [ht] at hT; simp only [tyOK] at hT
  have hxv := hr.ev x _ hx
  have hyv := hr.ev y _ hy
  simp only [RelV, SV.enc] at hxv hyv
  have ha1 : c.args = #[x, y] := by apply Array.ext'; simpa using hag
  have ha2 : c.argTypes = #[t, u] := by apply Array.ext'; simpa using hat
  have hone := row_one hrow
  have hfc := firstCells_row (P := X.P) hrow
  obtain ⟨pp, pl, pc⟩ := p
  obtain ⟨qp, ql, qc⟩ := q
  simp only [Sl.val] at *
  have hrun : ∃ w2, (execOp a.eval o).run X.P wa = .ok (.value (.int .i64 (Nat.min ql pl : Nat))) w2 ∧ K (s.clean.putD o.dst (.int .i64 (Nat.min ql pl : Nat))) w2 ∧ ∀ b ∈ s.live, w2.heap[b]? = wa.heap[b]? := by
    cases pp with
    | none =>
      refine ⟨wa, ?_, hN, fun _ _ => rfl⟩
      simp [execOp, hop, resolve, hcal, ha1, ha2, hxv, hyv, invoke, builtin, Builtin.copy_, run_underlying hT, sizeOf_run ok e hD, Builtin.lenOf, hfc, goInt]
    | some ad =>
      obtain ⟨h1, h2, h3⟩ := hN
      have hst := store_run (P := X.P) hone h1
      refine ⟨_, ?_, h3, fun b hb => setCells_heap _ _ _ _ _ (by rintro rfl; exact h2 hb)⟩
      simp [execOp, hop, resolve, hcal, ha1, ha2, hxv, hyv, invoke, builtin, Builtin.copy_, run_underlying hT, sizeOf_run ok e hD, Builtin.lenOf, hfc, goInt, hst]
  obtain ⟨w2, h1, h2, h3⟩ := hrun
  unfold Oper.wp
  rw [h1, Oper.upon_value]
  exact world_post hr.clean hd rfl (fun _ _ => rfl) rfl rfl h3 h2

theorem bytesStr_run {P : Program} {w : World} {q : Sl} {F : ByteArray → Prop} (h : BytesStr w q F) : ∃ b, F b ∧ (Conv.bytesToString q.val).run P w = .ok (.string b) w := by
  obtain ⟨l, h1, h2, h3, h4⟩ := h
  refine ⟨_, h4, ?_⟩
  obtain ⟨p, len, cap⟩ := q
  cases p with
  | none =>
    have := h2 rfl
    subst this
    simp [Conv.bytesToString, Sl.val]
    rfl
  | some a =>
    simp only at h1
    have hl := run_loadCells_list (P := P) w a (l.map fun c => Value.int .u8 c.toNat) (fun j v hv => by
      simp only [List.getElem?_map, Option.map_eq_some_iff] at hv
      obtain ⟨c, hc, rfl⟩ := hv
      obtain ⟨hj, e⟩ := List.getElem?_eq_some_iff.1 hc
      have := h3 j hj
      simp only [Sl.at, Option.getD_some, Nat.mul_one] at this
      rw [this, e])
    simp only [List.length_map, h1] at hl
    have := run_bytesToString (P := P) w a len cap (l.map fun c => (c.toNat : Int)) (by rw [hl]; congr 2; simp)
    simp only [Sl.val]
    rw [this]
    congr 2
    have key : ∀ (l : List UInt8) (b : ByteArray), (l.map fun c => (c.toNat : Int)).foldl (fun r n => r.push (UInt8.ofNat n.toNat)) b = ⟨b.data ++ l.toArray⟩ := by
      intro l
      induction l with
      | nil => intro b; simp
      | cons c r ih =>
        intro b
        have hc : UInt8.ofNat ((c.toNat : Int)).toNat = c := by simp
        simp only [List.map_cons, List.foldl_cons, ih, hc]
        congr 1
        show b.data.push c ++ r.toArray = _
        apply Array.ext'
        simp
    rw [key]
    congr 1
    show (#[] : Array UInt8) ++ l.toArray = _
    simp

include ok in
theorem bytes_wp {src dst e : Nat} {x : Operand} {q : Sl} (hop : o.op = .convert src dst x) (hs : X.T src = .slice e) (hdt : X.T dst = .str) (he : X.T e = .int .u8) (hx : s.ev x = some (.slice q)) (hr : Rel X N s w a wa) (hd : ∀ t, o.dst = some t → t < N)
    (h : s.look w fun s w => BytesStr w q fun b => K (s.putD o.dst (.str b)) w) : o.wp X.P a wa (OpPost X N K s o a) Q := by
  obtain ⟨s', w', h1, h2, h3, e1, e2, e3, _⟩ := look_sound h hr
  have h1' : BytesStr wa q fun b => K (s'.putD o.dst (.str b)) w' := by
    obtain ⟨l, g1, g2, g3, g4⟩ := h1
    exact ⟨l, g1, g2, fun i hi => h3.cell (g3 i hi) (by simp), g4⟩
  obtain ⟨b, hF, hb⟩ := bytesStr_run (P := X.P) h1'
  have t1 := ok.ty src; rw [hs] at t1; simp only [tyOK] at t1
  have t2 := ok.ty dst; rw [hdt] at t2; simp only [tyOK] at t2
  have t3 := ok.ty e; rw [he] at t3; simp only [tyOK] at t3
  have hxv := hr.ev x _ hx
  simp only [RelV, SV.enc] at hxv
  have hrun : (execOp a.eval o).run X.P wa = .ok (.value (.string b)) wa := by
    simp only [Sl.val] at hxv hb
    simp [execOp, hop, hxv, run_convert_bytes_string wa src dst e _ _ _ t1 t3 t2, hb]
  unfold Oper.wp
  rw [hrun, Oper.upon_value]
  exact ⟨_, w', hF, h2.putD hd rfl (fun _ _ _ e => by cases e), by rw [putD_nb, e3]; exact Nat.le_refl _, fun _ _ i _ => by rw [putD_bx, e2], _, rfl⟩

include ok in
theorem mark_wp {t e : Nat} {x : Operand} {q : Sl} (hop : o.op = .convert t t x) (hs : X.T t = .slice e) (he : X.T e = .int .u8) (hx : s.ev x = some (.slice q)) (hr : Rel X N s w a wa) (hd : ∀ t, o.dst = some t → t < N)
    (h : s.flush w fun s w => MarkStr w q s.live fun w => K (s.putD o.dst (.slice q)) w) : o.wp X.P a wa (OpPost X N K s o a) Q := by
  have h' := flush_sound h hr
  rw [live_clean] at h'
  obtain ⟨ad, hq, c, e', hb, hn, hK⟩ := deref_iff.1 h'
  have t1 := ok.ty t; rw [hs] at t1; simp only [tyOK] at t1
  have t3 := ok.ty e; rw [he] at t3; simp only [tyOK] at t3
  have hxv := hr.ev x _ hx
  simp only [RelV, SV.enc] at hxv
  obtain ⟨p, len, cap⟩ := q
  simp only at hq
  subst hq
  simp only [Sl.val] at hxv
  have hlt : ad.block < wa.heap.size := (Array.getElem?_eq_some_iff.1 hb).1
  have hw : ∀ k, k ≠ ad.block → (wa.freeze { block := ad.block, off := c.size } 1).heap[k]? = wa.heap[k]? := by
    intro k hk
    simp [World.freeze, Array.getElem?_modify, hk.symm]
  have hw2 : (wa.freeze { block := ad.block, off := c.size } 1).heap[ad.block]? = some (.cells c e' (c.size, c.size + 1)) := by
    have hv : wa.heap[ad.block] = .cells c e' (0, 0) := (Array.getElem?_eq_some_iff.1 hb).2
    simp [World.freeze, Array.getElem?_modify, hb]
  have hsh : wa.shape? ad.block = some (e', c.size) := by simp [World.shape?, hb]
  have hrun : (execOp a.eval o).run X.P wa = .ok (.value (.slice (some ad) len cap)) (wa.freeze { block := ad.block, off := c.size } 1) := by
    simp [execOp, hop, hxv, convert, run_underlying t1, run_underlying t3, markStringish, hsh]
  have hu : Upd [ad.block] [] wa (wa.freeze { block := ad.block, off := c.size } 1) :=
    ⟨by simp [World.freeze], by simp [World.freeze], by simp [World.freeze], by simp [World.freeze], fun k hk hm => hw k (by simpa using hm), by simp⟩
  unfold Oper.wp
  rw [hrun, Oper.upon_value]
  exact world_post hr.clean hd rfl (fun _ _ => rfl) rfl rfl (fun b hb' => hw b (by rintro rfl; exact hn hb')) (hK _ hu hw2)

include ok in
theorem makeSlice_wp {t e : Nat} {x y : Operand} {l m : Int} (hop : o.op = .makeSlice t x y) (ht : X.T t = .slice e) (hx : s.ev x = some (.int .i64 l)) (hy : s.ev y = some (.int .i64 m)) (hf : isFull (X.T e) = true) (hr : Rel X N s w a wa) (hd : ∀ t, o.dst = some t → t < N)
    (h : Need (decide (0 ≤ l) && decide (l ≤ m) && decide (m ≤ 281474976710656) && decide ((X.B e : Int) * m ≤ 281474976710656)) (s.newRow w (zerosOf (X.T e) m.toNat) e fun s b w => K (s.putD o.dst (.slice ⟨some ⟨b, 0, none⟩, l.toNat, m.toNat⟩)) w)) : o.wp X.P a wa (OpPost X N K s o a) Q := by
  simp only [Need_iff, Bool.and_eq_true, decide_eq_true_eq] at h
  obtain ⟨⟨⟨⟨h0, hlm⟩, hm48⟩, hb⟩, hN⟩ := h
  obtain ⟨hK, hrel⟩ := newRow_sound hN hr
  have hT := ok.ty t; rw [ht] at hT; simp only [tyOK] at hT
  have hxv := hr.ev x _ hx
  have hyv := hr.ev y _ hy
  simp only [RelV, SV.enc] at hxv hyv
  obtain ⟨z, i, hz1, hD, hi, hi1, hi2, hi3, hzs1, hzs2, hzs3⟩ := full_zero ok hf
  have hwl : IntKind.i64.wrap l = l := by unfold IntKind.wrap; simp [IntKind.bits, IntKind.signed]; omega
  have hwm : IntKind.i64.wrap m = m := by unfold IntKind.wrap; simp [IntKind.bits, IntKind.signed]; omega
  have hz : ((Array.range (m.toNat * (X.T e).size)).map fun i => z.cells.toArray[i % z.cells.toArray.size]!) = (zerosOf (X.T e) m.toNat).toArray := by
    rw [zerosOf_eq hz1, ← flat_rep z.cells m.toNat, ← hzs3]
    apply Array.ext'
    simp [Array.toList_map]
  have e1 : ¬ (m < 0) := by omega
  have e2 : ¬ (l < 0) := by omega
  have e3 : ¬ (l > m) := by omega
  have e4 : ¬ (281474976710656 < (X.B e : Int) * m) := by omega
  have hrun : (execOp a.eval o).run X.P wa = .ok (.value (.slice (some ⟨wa.heap.size, 0, none⟩) l.toNat m.toNat)) (wa.alloc (.cells (zerosOf (X.T e) m.toNat).toArray e)) := by
    by_cases h00 : m.toNat * (X.T e).size = 0
    · have hnil : zerosOf (X.T e) m.toNat = [] := by
        rw [zerosOf_eq hz1]
        rw [← hzs3] at h00
        apply List.eq_nil_of_length_eq_zero
        simp [List.length_flatten, h00]
      rw [hnil]
      have hr0 : Array.range (m.toNat * (X.T e).size) = #[] := by rw [h00]; rfl
      have hr1 : Array.range 0 = #[] := rfl
      simp [execOp, hop, hxv, hyv, hr0, hr1, Instr.makeSlice, run_underlying hT, asInt, asIntOf, typeInfo, hi, hi2, hwl, hwm, e1, e2, e3, e4, sizeOf_run ok e hD, h00, newRow]
    · simp [execOp, hop, hxv, hyv, Instr.makeSlice, run_underlying hT, asInt, asIntOf, typeInfo, hi, hi2, hwl, hwm, e1, e2, e3, e4, sizeOf_run ok e hD, h00, newRow, zeroValue, hi3, hzs2]
      simp at hz
      rw [hz]
  unfold Oper.wp
  rw [hrun, Oper.upon_value]
  exact ⟨_, _, hK, hrel.putD hd rfl (fun _ _ _ e => by cases e), by rw [putD_nb]; exact Nat.le_refl _, fun _ _ i _ => by rw [putD_bx]; rfl, _, rfl⟩
end
end Go.Vc
