import Derived.Test.YtopobapmncbjhaaVcT
namespace Go.Vc
open Go.RowKit (Below)
set_option linter.unusedSimpArgs false
set_option linter.unusedVariables false
set_option autoImplicit false

/-- one result of a call -/
def resOne (tmps : Array Value) : ResultVar → Sem Value
  | .tmp t => pure (tmps.getD t undef)
  | .cell a t => do loadVar t (← asAddr (tmps.getD a undef))

section
variable {X : Tab} (ok : TabOK X) {N : Nat}

include ok in
theorem resSV_run {s : St} {w : World} {a : Act} {wa : World} (hr : Rel X N s w a wa) : ∀ {rs : List ResultVar} {l : List SV}, resSV X s rs = some l → allPlain l = true →
    (rs.mapM (resOne a.tmps)).run X.P wa = .ok (SV.encL l) wa
  | [], l, h, _ => by
    simp only [resSV, Option.some.injEq] at h
    subst h
    simp [SV.encL]
  | .tmp t :: r, l, h, hp => by
    simp only [resSV] at h
    split at h
    · rename_i x l' h1 h2
      obtain rfl : x :: l' = l := by simpa using h
      simp only [allPlain, Bool.and_eq_true] at hp
      have ih := resSV_run hr h2 hp.2
      have hx := (relv_plain hp.1).1 (hr.env t x h1)
      simp only [List.mapM_cons, Sem.run_bind, resOne, Sem.run_pure, Result.andThen_ok, ih, hx, SV.encL]
    · cases h
  | .cell b t :: r, l, h, hp => by
    simp only [resSV] at h
    split at h
    · rename_i id off p l' h1 h2
      split at h
      · rename_i hli
        split at h
        · rename_i bb bt c hb
          split at h
          · rename_i x hx
            obtain rfl : x :: l' = l := by simpa using h
            simp only [allPlain, Bool.and_eq_true] at hp
            have ih := resSV_run hr h2 hp.2
            have hv := hr.env b _ h1
            obtain ⟨b2, bt2, c2, g1, g2, g3⟩ := lIs_path hv hli
            rw [hb] at g1
            simp at g1
            obtain ⟨rfl, rfl, rfl⟩ := g1
            obtain ⟨_, _, k3⟩ := hr.bx id bb bt c hb
            have hD : isData (X.T t) = true := by
              obtain ⟨y, hy, hys, _⟩ := path_get k3 g3
              cases hT : X.T t <;> rw [hT] at hys <;> first | rfl | (cases y <;> simp [SV.shape] at hys)
            obtain ⟨z, k4, rfl, k6⟩ := box_load (F := fun z => z = x) (wa := wa) ok (fun b' t' c' hb' => (hr.bx _ b' t' c' hb').2) hv hli hD (by rw [hb]; exact ifSome_iff.2 ⟨x, hx, rfl⟩)
            rw [g2] at k6
            have k7 : (loadVar t ⟨bb, off, none⟩).run X.P wa = .ok z.enc wa := by
              simpa [Instr.loadAt, Instr.sureAddr] using k6
            simp only [List.mapM_cons, Sem.run_bind, resOne, g2, asAddr, Sem.run_pure, Result.andThen_ok, k7, ih, SV.encL]
          · cases h
        · cases h
      · cases h
    · cases h

theorem encL_length (l : List SV) : (SV.encL l).length = l.length := by rw [encL_eq]; simp

include ok in
theorem results_run {s : St} {w : World} {a : Act} {wa : World} (hr : Rel X N s w a wa) {fn : Func} {l : List SV} (h : resSV X s fn.results.toList = some l) (hp : allPlain l = true) :
    (results fn a.tmps).run X.P wa = .ok (oneOf l).enc wa := by
  have h1 := resSV_run ok hr h hp
  have h2 : (fn.results.mapM (resOne a.tmps)).run X.P wa = .ok (SV.encL l).toArray wa := by
    rw [Array.mapM_eq_mapM_toList, ← bind_pure_comp, Sem.run_bind, h1]
    simp
  have h3 : results fn a.tmps = (do let vs ← fn.results.mapM (resOne a.tmps); pure (if h : vs.size = 1 then vs[0] else .tuple vs)) := by
    unfold results
    congr 1
  rw [h3, Sem.run_bind, h2]
  simp only [Result.andThen_ok, Sem.run_pure]
  congr 1
  match l with
  | [] => simp [oneOf, SV.enc, SV.encL]
  | [x] => simp [oneOf, SV.encL]
  | x :: y :: r => simp [oneOf, SV.enc, SV.encL]

theorem argsEnv_get : ∀ (l : List SV) (i u : Nat) (v : SV), argsEnv l i u = some v → i ≤ u ∧ l[u - i]? = some v
  | [], i, u, v, h => by simp [argsEnv] at h
  | x :: r, i, u, v, h => by
    simp only [argsEnv] at h
    split at h
    · rename_i e
      have := nbeq.1 e
      subst this
      simp at h
      simp [h]
    · rename_i e
      have hne := nbeq_false.1 e
      obtain ⟨h1, h2⟩ := argsEnv_get r (i + 1) u v h
      refine ⟨by omega, ?_⟩
      rw [show u - i = (u - (i + 1)) + 1 by omega]
      simpa using h2

theorem allPlain_mem : ∀ {l : List SV}, allPlain l = true → ∀ x ∈ l, plain x = true
  | [], _, x, h => by cases h
  | y :: r, hp, x, h => by
    simp only [allPlain, Bool.and_eq_true] at hp
    rcases List.mem_cons.1 h with rfl | h
    · exact hp.1
    · exact allPlain_mem hp.2 x h

/-- the temporaries that the code writes are the function's -/
def writesOK (fn : Func) : Bool := match fn.body with | some c => (codeW c).all fun t => Nat.blt t fn.ntmps | none => false

/-- the beginning of a call -/
theorem start_rel (hD : X.D = []) {args : List SV} (hp : allPlain args = true) (w : World) (n : Nat) :
    Rel X (((SV.encL args).toArray ++ Array.replicate n undef).size) (start args) w { tmps := (SV.encL args).toArray ++ Array.replicate n undef, defers := [] } w where
  defers := hD.symm
  size := rfl
  env := fun t v hv => by
    simp only [start] at hv
    obtain ⟨_, hg⟩ := argsEnv_get args 0 t v hv
    simp only [Nat.sub_zero] at hg
    have hpl := allPlain_mem hp v (List.mem_of_getElem? hg)
    refine (relv_plain hpl).2 ?_
    have hlt : t < args.length := (List.getElem?_eq_some_iff.1 hg).1
    simp only [Array.getD_eq_getD_getElem?]
    rw [Array.getElem?_append_left (by simp [encL_length]; exact hlt)]
    simp [encL_eq, hg]
  bx := fun i b t c hb => by simp [start] at hb
  sep := fun i j b t c b' t' c' hb => by simp [start] at hb
  lp := fun u id off p hu => by
    simp only [start] at hu
    obtain ⟨_, hg⟩ := argsEnv_get args 0 u _ hu
    have hpl := allPlain_mem hp _ (List.mem_of_getElem? hg)
    simp [plain] at hpl
  nb0 := Nat.le_refl _
  newIn := fun i b t c hb => by simp [start] at hb
  modIn := fun i b t c hb => by simp [start] at hb
  idlt := by simp [start]
  upd := Upd.refl w
  cln := fun _ => rfl

include ok in
/-- the end of a call -/
theorem fin_run {N : Nat} {fn : Func} {R : SV → World → Prop} {s : St} {w1 : World} {a1 : Act} {wa1 : World} (hh : finVC X fn R s w1) (hr1 : Rel X N s w1 a1 wa1) :
    ∃ v, (results fn a1.tmps).run X.P wa1 = .ok v wa1 ∧ (∃ r, (Ending.returned v) = .returned r.enc ∧ R r wa1) := by
  unfold finVC at hh
  split at hh
  · obtain ⟨s', w', g1, g2, _⟩ := esc_sound hh hr1
    have g3 := flush_sound g1 g2
    split at g3
    · rename_i l hl
      split at g3
      · rename_i hpl
        exact ⟨_, results_run ok g2.clean hl hpl, _, rfl, g3⟩
      · cases g3
    · cases g3
  · cases hh

include ok in
theorem fnVC_sound {f : Nat} {fn : Func} {n : Ann} {args : List SV} {w : World} {R : SV → World → Prop} (h : fnVC X fn n args w R) (hf : X.P.funcs[f]? = some fn)
    (hW : writesOK fn = true) (hp : allPlain args = true) (hD : X.D = []) : Ret X.P f args w R := by
  unfold fnVC at h
  unfold writesOK at hW
  cases hb : fn.body with
  | none => rw [hb] at hW; cases hW
  | some c =>
    rw [hb] at h hW
    simp only at h hW
    unfold Ret
    refine calls_of_wp hf hb ?_
    have hrel := start_rel hD hp w (fn.ntmps - (SV.encL args).toArray.size)
    have hN : ∀ t ∈ codeW c, t < ((SV.encL args).toArray ++ Array.replicate (fn.ntmps - (SV.encL args).toArray.size) undef).size := fun t ht => by
      have := List.all_eq_true.1 hW t ht
      simp at this
      simp [encL_length]
      omega
    have key := vc_sound ok c n (start args) w _ w _ _ _ h hrel hN
    refine wp_mono key ?_
    intro e a1 wa1 hpost
    cases e <;> simp only [Post, bodyPost] at hpost ⊢
    case normal =>
      obtain ⟨⟨s1, w1, h1, h2⟩, _⟩ := hpost
      exact ⟨h2.defers.trans hD, fin_run ok h1 h2⟩
    case ret =>
      obtain ⟨s1, w1, h1, h2⟩ := hpost
      exact ⟨h2.defers.trans hD, fin_run ok h1 h2⟩
    case exit i => exact hpost.1.elim fun s1 h => h.elim fun w1 h => h.1

include ok in
theorem resVC_run {s : St} {w : World} {a : Act} {wa : World} (hr : Rel X N s w a wa) : ∀ {rs : List ResultVar} {F : List SV → Prop}, resVC X s wa rs F →
    ∃ l, F l ∧ (allPlain l = true → (rs.mapM (resOne a.tmps)).run X.P wa = .ok (SV.encL l) wa)
  | [], F, h => ⟨[], h, fun _ => by simp [SV.encL]⟩
  | .tmp t :: r, F, h => by
    simp only [resVC] at h
    obtain ⟨x, h1, h2⟩ := ifSome_iff.1 h
    obtain ⟨l, g1, g2⟩ := resVC_run hr h2
    refine ⟨x :: l, g1, fun hp => ?_⟩
    simp only [allPlain, Bool.and_eq_true] at hp
    have hx := (relv_plain hp.1).1 (hr.env t x h1)
    simp only [List.mapM_cons, Sem.run_bind, resOne, Sem.run_pure, Result.andThen_ok, g2 hp.2, hx, SV.encL]
  | .cell b t :: r, F, h => by
    simp only [resVC] at h
    split at h
    · rename_i p hb
      obtain ⟨ad, rfl, h⟩ := deref_iff.1 h
      obtain ⟨x, k1, k2, k3⟩ := mem_load (wa := wa) ok h (loadVC_data h) (fun _ _ h => h)
      obtain ⟨l, g1, g2⟩ := resVC_run hr k2
      refine ⟨x :: l, g1, fun hp => ?_⟩
      simp only [allPlain, Bool.and_eq_true] at hp
      have hv := (relv_plain (x := .ptr (some ad)) rfl).1 (hr.env b _ hb)
      simp only [SV.enc] at hv
      have k4 : (loadVar t ad).run X.P wa = .ok x.enc wa := by
        simpa [Instr.loadAt, Instr.sureAddr] using k3
      simp only [List.mapM_cons, Sem.run_bind, resOne, hv, asAddr, Sem.run_pure, Result.andThen_ok, k4, g2 hp.2, SV.encL]
    · cases h
include ok in
theorem finD_run {N : Nat} {fn : Func} {R : SV → World → Prop} {s : St} {w1 : World} {a1 : Act} {wa1 : World} (hh : finVCD X fn R s w1) (hr1 : Rel X N s w1 a1 wa1) :
    ∃ v, (results fn a1.tmps).run X.P wa1 = .ok v wa1 ∧ (∃ r, (Ending.returned v) = .returned r.enc ∧ R r wa1) := by
  unfold finVCD at hh
  have g := flush_sound hh hr1
  obtain ⟨l, g1, g2⟩ := resVC_run ok hr1.clean g
  split at g1
  · rename_i hp
    have h1 := g2 hp
    have h2 : (fn.results.mapM (resOne a1.tmps)).run X.P wa1 = .ok (SV.encL l).toArray wa1 := by
      rw [Array.mapM_eq_mapM_toList, ← bind_pure_comp, Sem.run_bind, h1]
      simp
    have h3 : results fn a1.tmps = (do let vs ← fn.results.mapM (resOne a1.tmps); pure (if h : vs.size = 1 then vs[0] else .tuple vs)) := by
      unfold results
      congr 1
    refine ⟨(oneOf l).enc, ?_, _, rfl, g1⟩
    rw [h3, Sem.run_bind, h2]
    simp only [Result.andThen_ok, Sem.run_pure]
    congr 1
    match l with
    | [] => simp [oneOf, SV.enc, SV.encL]
    | [x] => simp [oneOf, SV.encL]
    | x :: y :: r => simp [oneOf, SV.enc, SV.encL]
  · cases g1

/-! ### one deferred call -/
theorem relv_D {D : List Deferred} {s : St} {v : Value} {x : SV} : RelV { X with D := D } s v x ↔ RelV X s v x := by cases x <;> exact Iff.rfl
theorem Rel.withD {N : Nat} {s : St} {w : World} {a : Act} {wa : World} (h : Rel X N s w a wa) (D : List Deferred) : Rel { X with D := D } N s w { a with defers := D } wa where
  defers := rfl
  size := h.size
  env := fun t v hv => relv_D.2 (h.env t v hv)
  bx := h.bx
  sep := h.sep
  lp := h.lp
  nb0 := h.nb0
  newIn := h.newIn
  modIn := h.modIn
  idlt := h.idlt
  upd := h.upd
  cln := h.cln
theorem Rel.offD {N : Nat} {D : List Deferred} {s : St} {w : World} {a : Act} {wa : World} (hD : X.D = []) (h : Rel { X with D := D } N s w a wa) : Rel X N s w { a with defers := [] } wa where
  defers := hD.symm
  size := h.size
  env := fun t v hv => relv_D.1 (h.env t v hv)
  bx := h.bx
  sep := h.sep
  lp := h.lp
  nb0 := h.nb0
  newIn := h.newIn
  modIn := h.modIn
  idlt := h.idlt
  upd := h.upd
  cln := h.cln
theorem fieldsOK_D {D : List Deferred} : ∀ {fs : List Field} {ts : List Ty} {off : Nat}, fieldsOK X fs ts off → fieldsOK { X with D := D } fs ts off
  | [], [], _, h => h
  | _ :: _, _ :: _, _, h => ⟨h.1, h.2.1, h.2.2.1, fieldsOK_D h.2.2.2⟩
  | [], _ :: _, _, h => h
  | _ :: _, [], _, h => h
theorem tyOK_D {D : List Deferred} {t : Nat} {T : Ty} (h : tyOK X t T) : tyOK { X with D := D } t T := by
  cases T with
  | struct b ts =>
    cases b with
    | false =>
      obtain ⟨fs, h1, h2, h3⟩ := h
      exact ⟨fs, h1, fieldsOK_D h2, h3⟩
    | true => exact h
  | _ => exact h
include ok in
theorem tabOK_D (D : List Deferred) : TabOK { X with D := D } := ⟨fun t => tyOK_D (ok.ty t), ok.info, ok.eqg, ok.call, ok.mixed⟩

include ok in
theorem opsVC_sound2 {N : Nat} {Q : Exit → Act → World → Prop} {ops : Array Oper} {k : St → World → Prop} {r : List Oper} : ∀ {l : List Oper} {s : St} {w : World} {a : Act} {wa : World}, opsVC X ops.toList l s w k → Rel X N s w a wa → (∀ t ∈ opsW l, t < N) →
    (∀ s' w' a' wa', k s' w' → Rel X N s' w' a' wa' → wpList X.P ops Q r a' wa') → wpList X.P ops Q (l ++ r) a wa
  | [], s, w, a, wa, h, hr, _, hQ => hQ s w a wa h hr
  | o :: l, s, w, a, wa, h, hr, hN, hQ => by
    simp only [opsVC] at h
    have hg := guard_sound h hr
    have hd : ∀ t, o.dst = some t → t < N := fun t ht => hN t (mem_opsW (by simp) ht)
    have hl : ∀ t ∈ opsW l, t < N := fun t ht => hN t (by rw [opsW_cons]; exact List.mem_append_right _ ht)
    rw [List.cons_append]
    unfold wpList
    split
    · rename_i hw
      left
      obtain ⟨s1, hy, hr1, _⟩ := hg.1 hw
      refine Oper.wp_mono ?_ (opVC_sound ok (Q := Q) hy hr1 hd)
      rintro a' wa' ⟨s', w', h1, h2, _, _, v, rfl⟩
      exact opsVC_sound2 h1 h2 hl hQ
    · rename_i hw
      obtain ⟨s1, hn, hr1, _⟩ := hg.2 (by simpa using hw)
      exact opsVC_sound2 hn hr1 hl hQ

theorem split_last {α : Type} : ∀ {l : List α} {o : α}, lastOf l = some o → l = initOf l ++ [o]
  | [], _, h => by cases h
  | [x], o, h => by
    simp only [lastOf, Option.some.injEq] at h
    subst h; rfl
  | x :: y :: r, o, h => by
    simp only [lastOf] at h
    have := split_last (l := y :: r) h
    simp only [initOf, List.cons_append]
    exact congrArg (x :: ·) this
theorem codeW_region {id : Nat} {ops : Array Oper} {d : Bool} : codeW (.region id ops d) = opsW ops.toList := rfl

include ok in
theorem spine_sound (hD : X.D = []) {fn : Func} {R : Ending → World → Prop} {N : Nat} {fe : St → World → Prop} {fl : Nat → List SV → St → World → Prop}
    (Hfe : ∀ s w a wa, fe s w → Rel X N s w a wa → Leaves X.P fn a.tmps R a.defers .returning wa)
    (Hfl : ∀ g cs s w a wa, X.C g = true → fl g cs s w → Rel { X with D := [deferOf g cs] } N s w a wa → Leaves X.P fn a.tmps R a.defers .returning wa) :
    ∀ (c : Code) (n : Ann) (s : St) (w : World) (a : Act) (wa : World), spineVC X fe fl c n s w → Rel X N s w a wa → (∀ t ∈ codeW c, t < N) → c.wp X.P (bodyPostD X.P fn R) a wa := by
  intro c
  induction c with
  | seq x y _ ihy =>
    intro n s w a wa h hr hN
    simp only [codeW, List.mem_append] at hN
    cases n <;> simp only [spineVC] at h <;> try (cases h; done)
    rename_i na nb
    split at h
    · refine wp_seq (wp_mono (vc_sound ok x na s w a wa _ _ _ h hr (fun t ht => hN t (.inl ht))) ?_)
      intro e a1 w1 hp
      cases e <;> simp only [Post, Exit.then] at hp ⊢
      case normal =>
        obtain ⟨⟨s1, w1', g1, g2⟩, _⟩ := hp
        exact ihy nb s1 w1' a1 w1 g1 g2 (fun t ht => hN t (.inr ht))
      case exit i =>
        obtain ⟨⟨s1, w1', g1, _⟩, _⟩ := hp
        exact g1.elim
      case ret =>
        obtain ⟨s1, w1', g1, g2⟩ := hp
        exact Hfe s1 w1' a1 w1 g1 g2
    · split at h
      · rename_i id ops _ _
        split at h
        · rename_i o ho
          refine wp_seq (wp_region_list ?_)
          have hsplit : ops.toList = initOf ops.toList ++ [o] := split_last ho
          have hW : ∀ t ∈ opsW (initOf ops.toList), t < N := fun t ht => hN t (.inl (by
            rw [codeW_region, hsplit]
            have : ∀ (l m : List Oper), t ∈ opsW l → t ∈ opsW (l ++ m) := by
              intro l m
              induction l with
              | nil => intro h; cases h
              | cons x l ih => intro h; rw [List.cons_append, opsW_cons] at *; rcases List.mem_append.1 h with h | h; exact List.mem_append_left _ h; exact List.mem_append_right _ (ih h)
            exact this _ _ ht))
          rw [hsplit]
          refine opsVC_sound2 ok h hr hW ?_
          intro s1 w1 a1 wa1 hd hr1
          unfold deferVC at hd
          split at hd
          · rename_i cc hg hop
            split at hd
            · cases hd
            · rename_i hdst
              split at hd
              · rename_i f hcal hargs
                split at hd
                · rename_i g cs hf
                  split at hd
                  · rename_i hpl
                    simp only [Bool.and_eq_true] at hpl
                    have hk := flush_sound hd hr1
                    have hfv := hr1.ev f _ hf
                    simp only [RelV, SV.enc] at hfv
                    have hrun : (execOp a1.eval o).run X.P wa1 = .ok (.defer (deferOf g cs)) wa1 := by
                      have ha : cc.args = #[] := by
                        have := hargs
                        cases hc : cc.args with
                        | mk l => rw [hc] at this; simp at this; rw [this]
                      simp [execOp, hop, resolve, hcal, hfv, Deferred.ofValue, ha, deferOf]
                    unfold wpList
                    rw [if_pos (by simp [Region.wanted, hg])]
                    left
                    unfold Oper.wp
                    rw [hrun, Oper.upon_defer, hdst]
                    have hdf := hr1.defers
                    rw [hD] at hdf
                    rw [hdf]
                    have hr2 := (hr1.clean).withD [deferOf g cs]
                    have := vc_sound (tabOK_D ok [deferOf g cs]) y nb s1.clean wa1 _ wa1 _ _ _ hk hr2 (fun t ht => hN t (.inr ht))
                    unfold wpList
                    refine wp_mono this ?_
                    intro e a3 w3 hp
                    cases e <;> simp only [Post, bodyPostD] at hp ⊢
                    case normal =>
                      obtain ⟨⟨s4, w4, g1, g2⟩, _⟩ := hp
                      exact Hfl g cs s4 w4 a3 w3 hpl.1 g1 g2
                    case exit i =>
                      obtain ⟨⟨s4, w4, g1, _⟩, _⟩ := hp
                      exact g1.elim
                    case ret =>
                      obtain ⟨s4, w4, g1, g2⟩ := hp
                      exact Hfl g cs s4 w4 a3 w3 hpl.1 g1 g2
                  · cases hd
                · cases hd
              · cases hd
          · cases hd
        · cases h
      · cases h
  | _ => intro n s w a wa h; simp only [spineVC] at h

include ok in
theorem fnVCD_sound {f : Nat} {fn : Func} {n : Ann} {args : List SV} {w : World} {R : SV → World → Prop} (h : fnVCD X fn n args w R) (hf : X.P.funcs[f]? = some fn)
    (hW : writesOK fn = true) (hp : allPlain args = true) (hD : X.D = []) : Ret X.P f args w R := by
  unfold fnVCD at h
  unfold writesOK at hW
  cases hb : fn.body with
  | none => rw [hb] at hW; cases hW
  | some c =>
    rw [hb] at h hW
    simp only at h hW
    unfold Ret
    refine calls_of_wp_defers hf hb ?_
    have hrel := start_rel hD hp w (fn.ntmps - (SV.encL args).toArray.size)
    have hN : ∀ t ∈ codeW c, t < ((SV.encL args).toArray ++ Array.replicate (fn.ntmps - (SV.encL args).toArray.size) undef).size := fun t ht => by
      have := List.all_eq_true.1 hW t ht
      simp at this
      simp [encL_length]
      omega
    refine spine_sound ok hD ?_ ?_ c n (start args) w _ w h hrel hN
    · intro s w1 a wa h1 h2
      rw [h2.defers, hD]
      exact fin_run ok h1 h2
    · intro g cs s w1 a wa hC h1 h2
      rw [h2.defers]
      have h3 := flush_sound h1 h2
      obtain ⟨fn', hfn, hbody, hname⟩ := ok.call g hC
      have hname' : ¬ (fn'.name = "runtime.NumGoroutine") := by simpa using hname
      have hb' : ¬ fn'.body = none := by intro e; rw [e] at hbody; cases hbody
      refine ⟨by simp, .func g, (SV.encL cs).toArray, g, (SV.encL cs).toArray, rfl, ?_, ?_⟩
      · simp [deferOf, invoke, callFunc, run_program, hfn, hname', hb']
      · intro c0 cs0 hm
        obtain ⟨e, u', w', fr, ⟨⟨v, rfl⟩, rfl, hQ⟩, hrest⟩ := h3 c0 cs0 hm
        refine ⟨_, _, w', fr, ?_, hrest⟩
        rw [live_clean] at hQ
        obtain ⟨hK, hkeep⟩ := keeps_live h2.clean hQ
        have hw := h2.clean.world (w2 := w') (fun i b t c hb => hkeep b (live_of hb (h2.bx i b t c hb).1))
        exact finD_run (a1 := { a with defers := [] }) ok hK (hw.offD hD)
end
end Go.Vc
