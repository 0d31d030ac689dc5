import Derived.Test.YtopobapmncbjhaaVcB
namespace Go.Vc
set_option linter.unusedSimpArgs false
set_option linter.unusedVariables false
set_option autoImplicit false

theorem extract_mid (pre m post : List Value) : (pre ++ m ++ post).toArray.extract pre.length (pre.length + m.length) = m.toArray := by
  apply Array.ext'
  simp [List.extract_eq_take_drop, List.append_assoc]

section
variable {X : Tab} (ok : TabOK X)
include ok

theorem isAgg_run (t : Nat) (ht : isData (X.T t) = true) (w : World) : (isAgg t).run X.P w = .ok (isAggTy (X.T t)) w := by
  have h := ok.ty t
  unfold isAgg
  cases hT : X.T t <;> simp only [hT, tyOK, isData] at h ht
  case struct b ts =>
    cases b with
    | false => obtain ⟨fs, h, _⟩ := h; rw [Sem.run_bind, run_underlying h]; simp [isAggTy]
    | true => obtain ⟨n, e, h, _⟩ := h; rw [Sem.run_bind, run_underlying h]; simp [isAggTy]
  case arr k n => obtain ⟨e, h, _⟩ := h; rw [Sem.run_bind, run_underlying h]; simp [isAggTy]
  case map => obtain ⟨k, e, h⟩ := h; rw [Sem.run_bind, run_underlying h]; simp [isAggTy]
  case tuple => cases ht
  case other => cases ht
  all_goals (rw [Sem.run_bind, run_underlying h]; simp [isAggTy])

theorem sizeOf_run (t : Nat) (ht : isData (X.T t) = true) (w : World) : (sizeOf t).run X.P w = .ok (X.T t).size w := by
  obtain ⟨i, hi, hs, _⟩ := ok.info t ht
  simp [sizeOf, typeInfo, hi, hs]

/-- a part of a value of cells -/
theorem part_run (t : Nat) (ht : isData (X.T t) = true) (v : SV) (hv : v.shape (X.T t) = true) (pre post : List Value) (off : Nat) (ho : off = pre.length) (w : World) :
    (part t (pre ++ v.cells ++ post).toArray off).run X.P w = .ok v.enc w := by
  subst ho
  have hs := shape_size hv
  unfold part
  rw [Sem.run_bind, isAgg_run ok t ht]
  simp only [Result.andThen_ok]
  cases ha : isAggTy (X.T t) with
  | true =>
    simp only [if_true, Sem.run_bind, sizeOf_run ok t ht, Result.andThen_ok, Sem.run_pure]
    rw [enc_agg hv ha]
    rw [← hs, extract_mid]
  | false =>
    rw [enc_scalar hv ha] at *
    simp

/-- the fields of a struct against its cells -/
theorem eqFields_run (d : Nat) (ih : ∀ (t : Nat) (a b : SV), (X.T t).cmp = true → (X.T t).depth < d → a.shape (X.T t) = true → b.shape (X.T t) = true → isData (X.T t) = true → ∀ w, (Op.equalIn d t a.enc b.enc).run X.P w = .ok (eqSV a b) w) :
    ∀ (fs : List Field) (ts : List Ty) (l m : List SV) (pa pb : List Value) (off : Nat), fieldsOK X fs ts off → off = pa.length → off = pb.length → Ty.cmps ts = true → (∀ t ∈ ts, t.depth < d) →
      SV.shapes l ts = true → SV.shapes m ts = true → (∀ t ∈ ts, isData t = true) → ∀ w, (Op.eqFields d (pa ++ SV.cellsL l).toArray (pb ++ SV.cellsL m).toArray fs).run X.P w = .ok (eqL l m) w
  | [], [], [], [], _, _, _, _, _, _, _, _, _, _, _, w => by simp [Op.eqFields, eqL]
  | [], _ :: _, _, _, _, _, _, h, _, _, _, _, _, _, _, _ => by simp [fieldsOK] at h
  | _ :: _, [], _, _, _, _, _, h, _, _, _, _, _, _, _, _ => by simp [fieldsOK] at h
  | [], [], _ :: _, _, _, _, _, _, _, _, _, _, h, _, _, _ => by simp [SV.shapes] at h
  | [], [], [], _ :: _, _, _, _, _, _, _, _, _, _, h, _, _ => by simp [SV.shapes] at h
  | _ :: _, _ :: _, [], _, _, _, _, _, _, _, _, _, h, _, _, _ => by simp [SV.shapes] at h
  | _ :: _, _ :: _, _ :: _, [], _, _, _, _, _, _, _, _, _, h, _, _ => by simp [SV.shapes] at h
  | f :: fs, t :: ts, x :: l, y :: m, pa, pb, off, hf, ha, hb, hc, hd, hl, hm, hD, w => by
    simp only [fieldsOK] at hf
    obtain ⟨h1, h2, h3, h4⟩ := hf
    simp only [SV.shapes, Bool.and_eq_true] at hl hm
    simp only [Ty.cmps, Bool.and_eq_true] at hc
    have hdt : isData t = true := hD t (by simp)
    subst h2
    have hne : f.name ≠ "_" := by intro e; rw [e] at h3; simp at h3
    simp only [Op.eqFields, if_pos hne, Sem.run_bind]
    have e1 := part_run ok f.type hdt x hl.1 pa (SV.cellsL l) f.offset (by omega) w
    have e2 := part_run ok f.type hdt y hm.1 pb (SV.cellsL m) f.offset (by omega) w
    simp only [SV.cellsL, ← List.append_assoc]
    rw [e1]; simp only [Result.andThen_ok]
    rw [e2]; simp only [Result.andThen_ok]
    rw [ih f.type x y hc.1 (hd _ (by simp)) hl.1 hm.1 hdt w]
    simp only [Result.andThen_ok]
    have rest := eqFields_run d ih fs ts l m (pa ++ x.cells) (pb ++ y.cells) (off + (X.T f.type).size) h4 (by simp [ha, shape_size hl.1]) (by simp [hb, shape_size hm.1]) hc.2
      (fun u hu => hd u (by simp [hu])) hl.2 hm.2 (fun u hu => hD u (by simp [hu])) w
    have hsame : eqL (x :: l) (y :: m) = (eqSV x y && eqL l m) := by
      cases l <;> cases m <;> simp [eqL]
      all_goals (cases ts <;> simp_all [SV.shapes])
    cases hxy : eqSV x y with
    | false => simp [hsame, hxy]
    | true => simp only [Bool.not_true, Bool.false_eq_true, if_false, rest, hsame, hxy, Bool.true_and]

/-- the elements of an array -/
theorem eqElems_run (d e : Nat) (he : isData (X.T e) = true) (sz : Nat) (hsz : sz = (X.T e).size) (xs ys : List Value) (g : Nat → Bool) :
    ∀ (n k : Nat), (∀ i, k ≤ i → i < k + n → ∃ a b : SV, a.shape (X.T e) = true ∧ b.shape (X.T e) = true ∧ (xs.drop (i * sz)).take sz = a.cells ∧ i * sz + sz ≤ xs.length ∧ (ys.drop (i * sz)).take sz = b.cells ∧ i * sz + sz ≤ ys.length ∧
        ∀ w, (Op.equalIn d e a.enc b.enc).run X.P w = .ok (g i) w) →
      ∀ w, ((forIn (List.range' k n) ((none : Option Bool), ()) fun i (_ : Option Bool × Unit) => do
          if !(← Op.equalIn d e (← part e xs.toArray (i * sz)) (← part e ys.toArray (i * sz))) then pure (ForInStep.done (some false, ()))
          else pure (ForInStep.yield (none, ()))) : Sem (Option Bool × Unit)).run X.P w =
        .ok (if (List.range' k n).all g then (none, ()) else (some false, ())) w
  | 0, k, _, w => by simp
  | n + 1, k, h, w => by
    obtain ⟨a, b, ha, hb, hxa, hxl, hyb, hyl, hr⟩ := h k (Nat.le_refl _) (by omega)
    have e1 : xs = xs.take (k * sz) ++ a.cells ++ xs.drop (k * sz + sz) := by
      rw [← hxa, ← List.drop_drop, List.append_assoc, List.take_append_drop, List.take_append_drop]
    have e2 : ys = ys.take (k * sz) ++ b.cells ++ ys.drop (k * sz + sz) := by
      rw [← hyb, ← List.drop_drop, List.append_assoc, List.take_append_drop, List.take_append_drop]
    have p1 := part_run ok e he a ha (xs.take (k * sz)) (xs.drop (k * sz + sz)) (k * sz) (by simp; omega) w
    have p2 := part_run ok e he b hb (ys.take (k * sz)) (ys.drop (k * sz + sz)) (k * sz) (by simp; omega) w
    rw [← e1] at p1
    rw [← e2] at p2
    rw [List.range'_succ, List.forIn_cons]
    simp only [Sem.run_bind, p1, p2, hr, Result.andThen_ok]
    cases hg : g k with
    | false => simp [hg]
    | true =>
      have rest := eqElems_run d e he sz hsz xs ys g n (k + 1) (fun i h1 h2 => h i (by omega) (by omega)) w
      simp only [Bool.not_true, Bool.false_eq_true, if_false, Sem.run_pure, Result.andThen_ok, rest]
      simp only [List.all_cons, hg, Bool.true_and]

omit ok in
theorem fields_data : ∀ {fs : List Field} {ts : List Ty} {off : Nat}, fieldsOK X fs ts off → Ty.cmps ts = true → ∀ t ∈ ts, isData t = true ∧ t.cmp = true ∧ t.depth ≤ Ty.depths ts
  | _, [], _, _, _ => by simp
  | [], _ :: _, _, h, _ => by simp [fieldsOK] at h
  | f :: fs, t :: ts, off, h, hc => by
    simp only [fieldsOK] at h
    simp only [Ty.cmps, Bool.and_eq_true] at hc
    intro u hu
    rcases List.mem_cons.1 hu with rfl | hu
    · refine ⟨?_, hc.1, by simp [Ty.depths]⟩
      cases u <;> simp [Ty.cmp] at hc <;> rfl
    · have := fields_data h.2.2.2 hc.2 u hu
      exact ⟨this.1, this.2.1, by simp only [Ty.depths]; omega⟩

theorem eq_run : ∀ (d : Nat) (t : Nat) (a b : SV), (X.T t).cmp = true → (X.T t).depth < d → a.shape (X.T t) = true → b.shape (X.T t) = true → isData (X.T t) = true →
    ∀ w, (Op.equalIn d t a.enc b.enc).run X.P w = .ok (eqSV a b) w := by
  intro d
  induction d with
  | zero => intro t a b hc hd; omega
  | succ d ih =>
    intro t a b hc hd ha hb hD w
    have h := ok.ty t
    cases hT : X.T t <;> rw [hT] at h hc ha hb hd <;> simp only [tyOK] at h
    case int k =>
      cases a <;> simp [SV.shape] at ha
      cases b <;> simp [SV.shape] at hb
      have e1 := ksame_eq ha
      have e2 := ksame_eq hb
      subst e1; subst e2
      simp [SV.enc, Op.equalIn, run_underlying h, eqSV]
    case bool =>
      cases a <;> simp [SV.shape] at ha
      cases b <;> simp [SV.shape] at hb
      simp [SV.enc, Op.equalIn, run_underlying h, eqSV]
    case str =>
      cases a <;> simp [SV.shape] at ha
      cases b <;> simp [SV.shape] at hb
      simp [SV.enc, Op.equalIn, run_underlying h, eqSV]
    case arr k n =>
      obtain ⟨e, hu, he⟩ := h
      cases a <;> simp [SV.shape] at ha
      cases b <;> simp [SV.shape] at hb
      rename_i ka na f kb nb g
      obtain ⟨a1, rfl⟩ := ha
      obtain ⟨b1, rfl⟩ := hb
      obtain rfl := ksame_eq a1
      obtain rfl := ksame_eq b1
      have heD : isData (X.T e) = true := by rw [he]; rfl
      have hk := ok.ty e
      rw [he] at hk
      simp only [tyOK] at hk
      obtain ⟨d, rfl⟩ : ∃ m, d = m + 1 := ⟨d - 1, by simp [Ty.depth] at hd; omega⟩
      have hrow : ∀ (q : Nat → Int) (i : Nat), i < nb → (((List.range nb).map fun i => Value.int kb (q i)).drop (i * 1)).take 1 = (SV.int kb (q i)).cells := by
        intro q i hi
        rw [Nat.mul_one, List.drop_eq_getElem_cons (by simpa using hi)]
        simp [SV.cells]
      have hel := eqElems_run ok (d + 1) e heD 1 (by rw [he]; rfl) ((List.range nb).map fun i => Value.int kb (f i)) ((List.range nb).map fun i => Value.int kb (g i)) (fun i => f i == g i) nb 0
        (fun i _ hi => ⟨.int kb (f i), .int kb (g i), by rw [he]; simp [SV.shape, ksame_refl], by rw [he]; simp [SV.shape, ksame_refl], hrow f i (by omega), by simp; omega, hrow g i (by omega), by simp; omega,
          fun w => by simp [SV.enc, Op.equalIn, run_underlying hk]⟩) w
      have hsz := sizeOf_run ok e heD w
      rw [he] at hsz
      simp only [Ty.size] at hsz
      simp only [SV.enc]
      rw [Op.equalIn]
      simp only [Sem.run_bind, run_underlying hu, Result.andThen_ok, hsz]
      rw [Std.Legacy.Range.forIn_eq_forIn_range']
      have hr : List.range' [:nb].start [:nb].size [:nb].step = List.range' 0 nb := by simp [Std.Legacy.Range.size]
      rw [hr, hel]
      have hall : eqSV (SV.arr kb nb f) (SV.arr kb nb g) = (List.range' 0 nb).all fun i => f i == g i := by
        simp only [eqSV, eqArr, List.range_eq_range']
      rw [hall]
      cases (List.range' 0 nb).all fun i => f i == g i <;> simp
    case struct c ts =>
      cases c with
      | true => simp [Ty.cmp] at hc
      | false =>
        simp only [tyOK] at h
        obtain ⟨fs, hu, hf, hst⟩ := h
        cases a <;> simp [SV.shape] at ha
        cases b <;> simp [SV.shape] at hb
        rename_i l m
        simp only [Ty.cmp] at hc
        have hfo : X.P.fieldsOf t = fs := by simp [Program.fieldsOf, hu]
        have hall := fields_data hf hc
        simp only [SV.enc]
        rw [run_equalIn_struct w d t _ _ (by rw [hfo]; exact hu) hst, hfo]
        simp only [Ty.depth] at hd
        have := eqFields_run ok d (fun t a b h1 h2 h3 h4 h5 => ih t a b h1 h2 h3 h4 h5) fs.toList ts l m [] [] 0 hf rfl rfl hc (fun u hu => by have := (hall u hu).2.2; omega) ha hb (fun u hu => (hall u hu).1) w
        simpa [eqSV] using this
    all_goals (simp [Ty.cmp] at hc)
end
end Go.Vc
