import Derived.Test.YtopobapmncbjhaaVcP
namespace Go.Vc
open Go.RowKit (Below)
set_option linter.unusedSimpArgs false
set_option linter.unusedVariables false
set_option autoImplicit false

def Fr (W : List Nat) (a a' : Act) : Prop := ∀ t, t ∉ W → a'.tmps.getD t undef = a.tmps.getD t undef
theorem Fr.refl (W : List Nat) (a : Act) : Fr W a a := fun _ _ => rfl
theorem Fr.trans {W W' : List Nat} {a b c : Act} (h : Fr W a b) (k : Fr W' b c) : Fr (W ++ W') a c := fun t ht => by
  simp only [List.mem_append, not_or] at ht
  rw [k t ht.2, h t ht.1]
theorem Fr.mono {W W' : List Nat} {a b : Act} (h : Fr W a b) (hs : ∀ t ∈ W, t ∈ W') : Fr W' a b := fun t ht => h t (fun hm => ht (hs t hm))
theorem Fr.put (a : Act) (d : Option Nat) (v : Value) : Fr d.toList a (a.put d v) := fun t ht => by
  cases d with
  | none => rfl
  | some u =>
    have hne : u ≠ t := by rintro rfl; simp at ht
    simp only [Act.put, Array.getD_eq_getD_getElem?, Array.getElem?_setIfInBounds, if_neg hne]

/-- what the code's own logic is asked -/
def Post (X : Tab) (N : Nat) (k : St → World → Prop) (ex : Nat → St → World → Prop) (ret : St → World → Prop) (W : List Nat) (a0 : Act) : Exit → Act → World → Prop
  | .normal, a, wa => (∃ s w, k s w ∧ Rel X N s w a wa) ∧ Fr W a0 a
  | .exit i, a, wa => (∃ s w, ex i s w ∧ Rel X N s w a wa) ∧ Fr W a0 a
  | .ret, a, wa => ∃ s w, ret s w ∧ Rel X N s w a wa
  | _, _, _ => False

section
variable {X : Tab} (ok : TabOK X) {N : Nat} {s : St} {w : World} {a : Act} {wa : World} {Q : Exit → Act → World → Prop}

theorem dstOf_eq (ops : Array Oper) (j : Nat) : dstOf ops.toList j = (ops[j]?).bind (·.dst) := by
  unfold dstOf
  rw [nth_eq]
  simp only [Array.getElem?_toList]
  cases ops[j]? <;> rfl

/-- an operation under its guard -/
theorem guard_sound {ops : Array Oper} {o : Oper} {yes no : St → Prop} (h : guardVC ops.toList s o yes no) (hr : Rel X N s w a wa) :
    (Region.wanted o (yielded ops a.tmps) = true → ∃ s1, yes s1 ∧ Rel X N s1 w a wa ∧ s1.bx = s.bx ∧ s1.nb = s.nb ∧ s1.mods = s.mods) ∧
    (Region.wanted o (yielded ops a.tmps) = false → ∃ s1, no s1 ∧ Rel X N s1 w (a.put o.dst undef) wa ∧ s1.bx = s.bx ∧ s1.nb = s.nb ∧ s1.mods = s.mods) := by
  unfold guardVC at h
  unfold Region.wanted
  cases hg : o.guard with
  | none =>
    simp only [hg] at h
    exact ⟨fun _ => ⟨s, h, hr, rfl, rfl, rfl⟩, fun e => by simp at e⟩
  | some gw =>
    obtain ⟨j, want⟩ := gw
    simp only [hg] at h
    simp only
    cases hd : dstOf ops.toList j with
    | none => simp [hd] at h
    | some d =>
      simp only [hd] at h
      cases he : s.env d with
      | none => simp [he] at h
      | some x =>
        rw [he] at h
        cases x with
        | bool c => ?_
        | tuple l =>
          cases l with
          | cons _ _ => exact absurd h (by simp)
          | nil =>
            simp only at h
            have hv := hr.env d _ he
            simp only [RelV, SV.enc, SV.encL] at hv
            have hy : yielded ops a.tmps j = none := by
              unfold yielded
              rw [← dstOf_eq, hd]
              simp only [Option.bind_some]
              rw [Array.getD_eq_getD_getElem?] at hv
              cases ht : a.tmps[d]? with
              | none => rfl
              | some u => rw [ht] at hv; simp at hv; rw [hv]
            rw [hy]
            have dbx : ∀ (s : St) (d : Option Nat), (s.drop d).bx = s.bx ∧ (s.drop d).nb = s.nb ∧ (s.drop d).mods = s.mods := fun s d => by cases d <;> exact ⟨rfl, rfl, rfl⟩
            exact ⟨fun e => by simp at e, fun _ => ⟨_, h, hr.drop o.dst, (dbx _ _).1, (dbx _ _).2.1, (dbx _ _).2.2⟩⟩
        | _ => exact absurd h (by simp)
        have hv := hr.env d _ he
        simp only [RelV, SV.enc] at hv
        have hy : yielded ops a.tmps j = some c := by
          unfold yielded
          rw [← dstOf_eq, hd]
          simp only [Option.bind_some]
          rw [Array.getD_eq_getD_getElem?] at hv
          cases ht : a.tmps[d]? with
          | none => rw [ht] at hv; simp [undef] at hv
          | some u => rw [ht] at hv; simp at hv; rw [hv]
        rw [hy]
        have hk : ∀ b, c = b → Rel X N (s.put d (some (.bool b))) w a wa := fun b e => by subst e; exact hr.known he
        have hdr : ∀ (b : Bool), c = b → Rel X N ((s.put d (some (.bool b))).drop o.dst) w (a.put o.dst undef) wa := fun b e => (hk b e).drop o.dst
        have dbx : ∀ (s : St) (d : Option Nat), (s.drop d).bx = s.bx ∧ (s.drop d).nb = s.nb ∧ (s.drop d).mods = s.mods := fun s d => by cases d <;> exact ⟨rfl, rfl, rfl⟩
        cases want with
        | true =>
          have h : Br c _ _ := h
          have h := Br_iff.1 h
          refine ⟨fun e => ?_, fun e => ?_⟩
          · have hc : c = true := by simpa using e
            exact ⟨_, h.1 hc, hk true hc, rfl, rfl, rfl⟩
          · have hc : c = false := by simpa using e
            exact ⟨_, h.2 hc, hdr false hc, (dbx _ _).1, (dbx _ _).2.1, (dbx _ _).2.2⟩
        | false =>
          have h : Br c _ _ := h
          have h := Br_iff.1 h
          refine ⟨fun e => ?_, fun e => ?_⟩
          · have hc : c = false := by simpa using e
            exact ⟨_, h.2 hc, hk false hc, rfl, rfl, rfl⟩
          · have hc : c = true := by simpa using e
            exact ⟨_, h.1 hc, hdr true hc, (dbx _ _).1, (dbx _ _).2.1, (dbx _ _).2.2⟩

theorem opsW_cons (x : Oper) (r : List Oper) : opsW (x :: r) = x.dst.toList ++ opsW r := by
  simp only [opsW]
  cases x.dst <;> rfl

theorem mem_opsW {l : List Oper} {o : Oper} {t : Nat} (h : o ∈ l) (ht : o.dst = some t) : t ∈ opsW l := by
  induction l with
  | nil => cases h
  | cons x r ih =>
    rw [opsW_cons]
    rcases List.mem_cons.1 h with rfl | h
    · simp [ht]
    · exact List.mem_append_right _ (ih h)

include ok in
theorem opsVC_sound {ops : Array Oper} {k : St → World → Prop} : ∀ {l : List Oper} {s : St} {w : World} {a : Act} {wa : World}, opsVC X ops.toList l s w k → Rel X N s w a wa → (∀ t ∈ opsW l, t < N) →
    (∀ s' w' a' wa', k s' w' → Rel X N s' w' a' wa' → Fr (opsW l) a a' → Q .normal a' wa') → wpList X.P ops Q l a wa
  | [], s, w, a, wa, h, hr, _, hQ => hQ s w a wa h hr (Fr.refl _ _)
  | o :: l, s, w, a, wa, h, hr, hN, hQ => by
    simp only [opsVC] at h
    have hg := guard_sound h hr
    have hd : ∀ t, o.dst = some t → t < N := fun t ht => hN t (mem_opsW (by simp) ht)
    have hl : ∀ t ∈ opsW l, t < N := fun t ht => hN t (by rw [opsW_cons]; exact List.mem_append_right _ ht)
    have hfr : ∀ a' v, Fr (opsW l) (a.put o.dst v) a' → Fr (opsW (o :: l)) a a' := fun a' v hf => by
      rw [opsW_cons]
      exact (Fr.put a o.dst v).trans hf
    unfold wpList
    split
    · rename_i hw
      left
      obtain ⟨s1, hy, hr1, _⟩ := hg.1 hw
      refine Oper.wp_mono ?_ (opVC_sound ok (Q := Q) hy hr1 hd)
      rintro a' wa' ⟨s', w', h1, h2, _, _, v, rfl⟩
      exact opsVC_sound h1 h2 hl (fun s2 w2 a2 wa2 hk hr2 hf => hQ s2 w2 a2 wa2 hk hr2 (hfr a2 v hf))
    · rename_i hw
      obtain ⟨s1, hn, hr1, _⟩ := hg.2 (by simpa using hw)
      exact opsVC_sound hn hr1 hl (fun s2 w2 a2 wa2 hk hr2 hf => hQ s2 w2 a2 wa2 hk hr2 (hfr a2 undef hf))

theorem setAll_nb : ∀ (ks : List (Key × Ty)) (l : List SV) (s : St), (s.setAll ks l).nb = s.nb ∧ (s.setAll ks l).nb0 = s.nb0 ∧ (s.setAll ks l).ids = s.ids ∧ (s.setAll ks l).mods = s.mods ∧ (s.setAll ks l).news = s.news ∧ (s.setAll ks l).dirty = s.dirty
  | [], l, s => by cases l <;> simp [St.setAll]
  | (.t n, _) :: r, [], s => by simp [St.setAll]
  | (.b n, _) :: r, [], s => by simp [St.setAll]
  | (.t n, _) :: r, x :: l, s => by
    simp only [St.setAll]
    exact setAll_nb r l _
  | (.b n, _) :: r, x :: l, s => by
    simp only [St.setAll]
    split
    · exact setAll_nb r l _
    · exact setAll_nb r l _

theorem setAll_env {s1 : St} : ∀ {ks : List (Key × Ty)} {l : List SV} {s : St}, s1.get ks = some l → fitsL (tysOf ks) l → ∀ u y, (s.setAll ks l).env u = some y → (s1.env u = some y ∧ plain y = true) ∨ s.env u = some y
  | [], l, s, h, _, u, y, hy => by cases l <;> exact .inr (by simpa [St.setAll] using hy)
  | (.t n, ty) :: r, l, s, h, hf, u, y, hy => by
    simp only [St.get] at h
    split at h
    · rename_i x l' h1 h2
      obtain rfl : x :: l' = l := by simpa using h
      simp only [tysOf, fitsL] at hf
      simp only [St.setAll] at hy
      rcases setAll_env h2 hf.2 u y hy with e | e
      · exact .inl e
      · simp only [St.put] at e
        split at e
        · rename_i hu
          obtain rfl := nbeq.1 hu
          obtain rfl : x = y := by simpa using e
          exact .inl ⟨h1, fits_plain hf.1⟩
        · exact .inr e
    · cases h
  | (.b n, ty) :: r, l, s, h, hf, u, y, hy => by
    simp only [St.get] at h
    split at h
    · rename_i b t c l' h1 h2
      obtain rfl : c :: l' = l := by simpa using h
      simp only [tysOf, fitsL] at hf
      simp only [St.setAll] at hy
      split at hy
      · exact (setAll_env h2 hf.2 u y hy).imp id (fun e => by simpa [St.putB] using e)
      · exact setAll_env h2 hf.2 u y hy
    · cases h

theorem setAll_bx {s1 : St} : ∀ {ks : List (Key × Ty)} {l : List SV} {s : St}, s1.get ks = some l → ∀ i b t c, (s.setAll ks l).bx i = some (.box b t c) →
    ∃ c0, s.bx i = some (.box b t c0) ∧ ((c = c0 ∧ ∀ ty, (Key.b i, ty) ∉ ks) ∨ ((∃ ty, (Key.b i, ty) ∈ ks) ∧ ∃ b1 t1, s1.bx i = some (.box b1 t1 c)))
  | [], l, s, h, i, b, t, c, hy => ⟨c, (by cases l <;> simpa [St.setAll] using hy), .inl ⟨rfl, by simp⟩⟩
  | (.t n, ty) :: r, l, s, h, i, b, t, c, hy => by
    simp only [St.get] at h
    split at h
    · rename_i x l' h1 h2
      obtain rfl : x :: l' = l := by simpa using h
      simp only [St.setAll] at hy
      obtain ⟨c0, e1, e2⟩ := setAll_bx h2 i b t c hy
      refine ⟨c0, e1, e2.imp (fun e => ⟨e.1, fun ty' hm => ?_⟩) (fun e => ⟨?_, e.2⟩)⟩
      · rcases List.mem_cons.1 hm with hm | hm
        · cases hm
        · exact e.2 ty' hm
      · obtain ⟨ty', hm⟩ := e.1
        exact ⟨ty', List.mem_cons_of_mem _ hm⟩
    · cases h
  | (.b n, ty) :: r, l, s, h, i, b, t, c, hy => by
    simp only [St.get] at h
    split at h
    · rename_i b1 t1 c1 l' h1 h2
      obtain rfl : c1 :: l' = l := by simpa using h
      simp only [St.setAll] at hy
      split at hy
      · rename_i b2 t2 c2 hs
        obtain ⟨c0, e1, e2⟩ := setAll_bx h2 i b t c hy
        simp only [St.putB] at e1
        by_cases hin : i = n
        · subst hin
          simp at e1
          obtain ⟨rfl, rfl, rfl⟩ := e1
          refine ⟨c2, hs, .inr ⟨⟨ty, by simp⟩, ?_⟩⟩
          rcases e2 with ⟨rfl, _⟩ | ⟨_, e2⟩
          · exact ⟨_, _, h1⟩
          · exact e2
        · rw [nbeq_false.2 hin] at e1
          refine ⟨c0, e1, e2.imp (fun e => ⟨e.1, fun ty' hm => ?_⟩) (fun e => ⟨?_, e.2⟩)⟩
          · rcases List.mem_cons.1 hm with hm | hm
            · cases hm; exact hin rfl
            · exact e.2 ty' hm
          · obtain ⟨ty', hm⟩ := e.1
            exact ⟨ty', List.mem_cons_of_mem _ hm⟩
      · rename_i hno
        obtain ⟨c0, e1, e2⟩ := setAll_bx h2 i b t c hy
        have hin : i ≠ n := by
          rintro rfl
          exact hno _ _ _ e1
        refine ⟨c0, e1, e2.imp (fun e => ⟨e.1, fun ty' hm => ?_⟩) (fun e => ⟨?_, e.2⟩)⟩
        · rcases List.mem_cons.1 hm with hm | hm
          · cases hm; exact hin rfl
          · exact e.2 ty' hm
        · obtain ⟨ty', hm⟩ := e.1
          exact ⟨ty', List.mem_cons_of_mem _ hm⟩
    · cases h

/-- behind a piece of code: the state that goes on -/
theorem Rel.forget {s1 : St} {w1 : World} {a' : Act} {wa' : World} (h0 : Rel X N s w a wa) (h1 : Rel X N s1 w1 a' wa') {W : List Nat} (hf : Fr W a a') {ks : List (Key × Ty)} {bs : List Nat} {l : List SV}
    (hsame : ∀ i ∈ bs, s1.bx i = s.bx i) (hnum : ∀ n t, (Key.b n, t) ∈ ks → boxBT (s1.bx n) = boxBT (s.bx n)) (hget : s1.get ks = some l) (hfit : fitsL (tysOf ks) l) :
    Rel X N ((s.forget W ks bs).setAll ks l) wa' a' wa' := by
  obtain ⟨e1, e2, e3, e4, e5, e6⟩ := setAll_nb ks l (s.forget W ks bs)
  have hbx : ∀ i b t c, ((s.forget W ks bs).setAll ks l).bx i = some (.box b t c) → (∃ c0, s.bx i = some (.box b t c0)) ∧ s1.bx i = some (.box b t c) := by
    intro i b t c hb
    obtain ⟨c0, g1, g2⟩ := setAll_bx hget i b t c hb
    simp only [St.forget] at g1
    split at g1
    · rename_i hin
      have hs1 := hsame i (hasN_iff.1 hin)
      rcases g2 with ⟨rfl, _⟩ | ⟨_, b1, t1, g2⟩
      · exact ⟨⟨_, g1⟩, by rw [hs1]; exact g1⟩
      · rw [hs1, g1] at g2
        simp at g2
        obtain ⟨rfl, rfl, rfl⟩ := g2
        exact ⟨⟨_, g1⟩, by rw [hs1]; exact g1⟩
    · split at g1
      · rename_i hany
        rcases g2 with ⟨rfl, hno⟩ | ⟨⟨ty, hm⟩, b1, t1, g2⟩
        · exfalso
          obtain ⟨⟨k, ty⟩, hk1, hk2⟩ := List.any_eq_true.1 hany
          cases k with
          | t n => simp at hk2
          | b n =>
            obtain rfl := nbeq.1 hk2
            exact hno ty hk1
        · have := hnum i ty hm
          rw [g1, g2] at this
          simp [boxBT] at this
          obtain ⟨rfl, rfl⟩ := this
          exact ⟨⟨_, g1⟩, g2⟩
      · cases g1
  have henv : ∀ u y, ((s.forget W ks bs).setAll ks l).env u = some y → (s1.env u = some y ∧ plain y = true) ∨ (u ∉ W ∧ s.env u = some y) := by
    intro u y hy
    refine (setAll_env hget hfit u y hy).imp id (fun e => ?_)
    simp only [St.forget] at e
    split at e
    · cases e
    · rename_i hW
      exact ⟨(fun hm => by rw [hasN_iff.2 hm] at hW; cases hW), e⟩
  exact {
    defers := h1.defers
    size := h1.size
    env := fun u y hy => by
      rcases henv u y hy with ⟨g1, g2⟩ | ⟨g1, g2⟩
      · exact (relv_plain g2).2 ((relv_plain g2).1 (h1.env u y g1))
      · have := h0.env u y g2
        rw [hf u g1]
        cases y <;> simp only [RelV] at this ⊢ <;> try exact this
        intro b t c hb
        obtain ⟨⟨c0, g3⟩, _⟩ := hbx _ b t c hb
        exact this b t c0 g3
    bx := fun i b t c hb => by
      obtain ⟨⟨c0, g1⟩, g2⟩ := hbx i b t c hb
      refine ⟨?_, (h1.bx i b t c g2).2⟩
      rw [e1]
      exact (h0.bx i b t c0 g1).1
    sep := fun i j b t c b' t' c' hi hj => h1.sep i j b t c b' t' c' (hbx i b t c hi).2 (hbx j b' t' c' hj).2
    lp := fun u id off p hu => by
      rw [e1]
      rcases henv u _ hu with ⟨_, g2⟩ | ⟨_, g2⟩
      · simp [plain] at g2
      · exact h0.lp u id off p g2
    nb0 := by rw [e1, e2]; exact Nat.le_refl _
    newIn := fun i b t c hb hn => by
      obtain ⟨⟨c0, g1⟩, g2⟩ := hbx i b t c hb
      have := (h0.bx i b t c0 g1).1
      rw [e2] at hn
      have hn : s.nb ≤ i := hn
      omega
    modIn := fun i b t c hb hn => by rw [e3] at hn; exact absurd hn (by simp [St.forget, St.clean])
    idlt := by rw [e3]; simp [St.forget, St.clean]
    upd := by
      rw [e4, e5]
      exact Upd.refl wa'
    cln := fun _ => rfl }
end
end Go.Vc
