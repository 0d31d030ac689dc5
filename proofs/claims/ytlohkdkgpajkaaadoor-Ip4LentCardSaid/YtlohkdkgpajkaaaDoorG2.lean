import Derived.Test.YtlohkdkgpajkaaaDoorG1
import Derived.Test.YtlohkdkgpajkaaaDoorProg
section
namespace Go.Vc
open Go.RowKit (Below)
set_option linter.unusedSimpArgs false
set_option linter.unusedVariables false
set_option autoImplicit false

def Fr (W : List Nat) (a a' : Act) : Prop := ∀ t, t ∉ W → a'.tmps.getD t undef = a.tmps.getD t undef
theorem Fr.refl (W : List Nat) (a : Act) : Fr W a a := fun _ _ => rfl
theorem Fr.trans {W W' : List Nat} {a b c : Act} (h : Fr W a b) (k : Fr W' b c) : Fr (W ++ W') a c := fun t ht => by
  simp only [List.mem_append, not_or] at ht
  rw [k t ht.2, h t ht.1]
theorem Fr.mono {W W' : List Nat} {a b : Act} (h : Fr W a b) (hs : ∀ t ∈ W, t ∈ W') : Fr W' a b := fun t ht => h t (fun hm => ht (hs t hm))
theorem Fr.put (a : Act) (d : Option Nat) (v : Value) : Fr d.toList a (a.put d v) := fun t ht => by
  cases d with
  | none => rfl
  | some u =>
    have hne : u ≠ t := by rintro rfl; simp at ht
    simp only [Act.put, Array.getD_eq_getD_getElem?, Array.getElem?_setIfInBounds, if_neg hne]

/-- what the code's own logic is asked -/
def Post (X : Tab) (N : Nat) (k : St → World → Prop) (ex : Nat → St → World → Prop) (ret : St → World → Prop) (W : List Nat) (a0 : Act) : Exit → Act → World → Prop
  | .normal, a, wa => (∃ s w, k s w ∧ Rel X N s w a wa) ∧ Fr W a0 a
  | .exit i, a, wa => (∃ s w, ex i s w ∧ Rel X N s w a wa) ∧ Fr W a0 a
  | .ret, a, wa => ∃ s w, ret s w ∧ Rel X N s w a wa
  | _, _, _ => False

section
variable {X : Tab} (ok : TabOK X) {N : Nat} {s : St} {w : World} {a : Act} {wa : World} {Q : Exit → Act → World → Prop}

theorem dstOf_eq (ops : Array Oper) (j : Nat) : dstOf ops.toList j = (ops[j]?).bind (·.dst) := by
  unfold dstOf
  rw [nth_eq]
  simp only [Array.getElem?_toList]
  cases ops[j]? <;> rfl

/-- an operation under its guard -/
theorem guard_sound {ops : Array Oper} {o : Oper} {yes no : St → Prop} (h : guardVC ops.toList s o yes no) (hr : Rel X N s w a wa) :
    (Region.wanted o (yielded ops a.tmps) = true → ∃ s1, yes s1 ∧ Rel X N s1 w a wa ∧ s1.bx = s.bx ∧ s1.nb = s.nb ∧ s1.mods = s.mods) ∧
    (Region.wanted o (yielded ops a.tmps) = false → ∃ s1, no s1 ∧ Rel X N s1 w (a.put o.dst undef) wa ∧ s1.bx = s.bx ∧ s1.nb = s.nb ∧ s1.mods = s.mods) := by
  unfold guardVC at h
  unfold Region.wanted
  cases hg : o.guard with
  | none =>
    simp only [hg] at h
    exact ⟨fun _ => ⟨s, h, hr, rfl, rfl, rfl⟩, fun e => by simp at e⟩
  | some gw =>
    obtain ⟨j, want⟩ := gw
    simp only [hg] at h
    simp only
    cases hd : dstOf ops.toList j with
    | none => simp [hd] at h
    | some d =>
      simp only [hd] at h
      cases he : s.env d with
      | none => simp [he] at h
      | some x =>
        rw [he] at h
        cases x with
        | bool c => ?_
        | tuple l =>
          cases l with
          | cons _ _ => exact absurd h (by simp)
          | nil =>
            simp only at h
            have hv := hr.env d _ he
            simp only [RelV, SV.enc, SV.encL] at hv
            have hy : yielded ops a.tmps j = none := by
              unfold yielded
              rw [← dstOf_eq, hd]
              simp only [Option.bind_some]
              rw [Array.getD_eq_getD_getElem?] at hv
              cases ht : a.tmps[d]? with
              | none => rfl
              | some u => rw [ht] at hv; simp at hv; rw [hv]
            rw [hy]
            have dbx : ∀ (s : St) (d : Option Nat), (s.drop d).bx = s.bx ∧ (s.drop d).nb = s.nb ∧ (s.drop d).mods = s.mods := fun s d => by cases d <;> exact ⟨rfl, rfl, rfl⟩
            exact ⟨fun e => by simp at e, fun _ => ⟨_, h, hr.drop o.dst, (dbx _ _).1, (dbx _ _).2.1, (dbx _ _).2.2⟩⟩
        | _ => exact absurd h (by simp)
        have hv := hr.env d _ he
        simp only [RelV, SV.enc] at hv
        have hy : yielded ops a.tmps j = some c := by
          unfold yielded
          rw [← dstOf_eq, hd]
          simp only [Option.bind_some]
          rw [Array.getD_eq_getD_getElem?] at hv
          cases ht : a.tmps[d]? with
          | none => rw [ht] at hv; simp [undef] at hv
          | some u => rw [ht] at hv; simp at hv; rw [hv]
        rw [hy]
        have hk : ∀ b, c = b → Rel X N (s.put d (some (.bool b))) w a wa := fun b e => by subst e; exact hr.known he
        have hdr : ∀ (b : Bool), c = b → Rel X N ((s.put d (some (.bool b))).drop o.dst) w (a.put o.dst undef) wa := fun b e => (hk b e).drop o.dst
        have dbx : ∀ (s : St) (d : Option Nat), (s.drop d).bx = s.bx ∧ (s.drop d).nb = s.nb ∧ (s.drop d).mods = s.mods := fun s d => by cases d <;> exact ⟨rfl, rfl, rfl⟩
        cases want with
        | true =>
          have h : Br c _ _ := h
          have h := Br_iff.1 h
          refine ⟨fun e => ?_, fun e => ?_⟩
          · have hc : c = true := by simpa using e
            exact ⟨_, h.1 hc, hk true hc, rfl, rfl, rfl⟩
          · have hc : c = false := by simpa using e
            exact ⟨_, h.2 hc, hdr false hc, (dbx _ _).1, (dbx _ _).2.1, (dbx _ _).2.2⟩
        | false =>
          have h : Br c _ _ := h
          have h := Br_iff.1 h
          refine ⟨fun e => ?_, fun e => ?_⟩
          · have hc : c = false := by simpa using e
            exact ⟨_, h.2 hc, hk false hc, rfl, rfl, rfl⟩
          · have hc : c = true := by simpa using e
            exact ⟨_, h.1 hc, hdr true hc, (dbx _ _).1, (dbx _ _).2.1, (dbx _ _).2.2⟩

theorem opsW_cons (x : Oper) (r : List Oper) : opsW (x :: r) = x.dst.toList ++ opsW r := by
  simp only [opsW]
  cases x.dst <;> rfl

theorem mem_opsW {l : List Oper} {o : Oper} {t : Nat} (h : o ∈ l) (ht : o.dst = some t) : t ∈ opsW l := by
  induction l with
  | nil => cases h
  | cons x r ih =>
    rw [opsW_cons]
    rcases List.mem_cons.1 h with rfl | h
    · simp [ht]
    · exact List.mem_append_right _ (ih h)

include ok in
theorem opsVC_sound {ops : Array Oper} {k : St → World → Prop} : ∀ {l : List Oper} {s : St} {w : World} {a : Act} {wa : World}, opsVC X ops.toList l s w k → Rel X N s w a wa → (∀ t ∈ opsW l, t < N) →
    (∀ s' w' a' wa', k s' w' → Rel X N s' w' a' wa' → Fr (opsW l) a a' → Q .normal a' wa') → wpList X.P ops Q l a wa
  | [], s, w, a, wa, h, hr, _, hQ => hQ s w a wa h hr (Fr.refl _ _)
  | o :: l, s, w, a, wa, h, hr, hN, hQ => by
    simp only [opsVC] at h
    have hg := guard_sound h hr
    have hd : ∀ t, o.dst = some t → t < N := fun t ht => hN t (mem_opsW (by simp) ht)
    have hl : ∀ t ∈ opsW l, t < N := fun t ht => hN t (by rw [opsW_cons]; exact List.mem_append_right _ ht)
    have hfr : ∀ a' v, Fr (opsW l) (a.put o.dst v) a' → Fr (opsW (o :: l)) a a' := fun a' v hf => by
      rw [opsW_cons]
      exact (Fr.put a o.dst v).trans hf
    unfold wpList
    split
    · rename_i hw
      left
      obtain ⟨s1, hy, hr1, _⟩ := hg.1 hw
      refine Oper.wp_mono ?_ (opVC_sound ok (Q := Q) hy hr1 hd)
      rintro a' wa' ⟨s', w', h1, h2, _, _, v, rfl⟩
      exact opsVC_sound h1 h2 hl (fun s2 w2 a2 wa2 hk hr2 hf => hQ s2 w2 a2 wa2 hk hr2 (hfr a2 v hf))
    · rename_i hw
      obtain ⟨s1, hn, hr1, _⟩ := hg.2 (by simpa using hw)
      exact opsVC_sound hn hr1 hl (fun s2 w2 a2 wa2 hk hr2 hf => hQ s2 w2 a2 wa2 hk hr2 (hfr a2 undef hf))

theorem setAll_nb : ∀ (ks : List (Key × Ty)) (l : List SV) (s : St), (s.setAll ks l).nb = s.nb ∧ (s.setAll ks l).nb0 = s.nb0 ∧ (s.setAll ks l).ids = s.ids ∧ (s.setAll ks l).mods = s.mods ∧ (s.setAll ks l).news = s.news ∧ (s.setAll ks l).dirty = s.dirty
  | [], l, s => by cases l <;> simp [St.setAll]
  | (.t n, _) :: r, [], s => by simp [St.setAll]
  | (.b n, _) :: r, [], s => by simp [St.setAll]
  | (.t n, _) :: r, x :: l, s => by
    simp only [St.setAll]
    exact setAll_nb r l _
  | (.b n, _) :: r, x :: l, s => by
    simp only [St.setAll]
    split
    · exact setAll_nb r l _
    · exact setAll_nb r l _

theorem setAll_env {s1 : St} : ∀ {ks : List (Key × Ty)} {l : List SV} {s : St}, s1.get ks = some l → fitsL (tysOf ks) l → ∀ u y, (s.setAll ks l).env u = some y → (s1.env u = some y ∧ plain y = true) ∨ s.env u = some y
  | [], l, s, h, _, u, y, hy => by cases l <;> exact .inr (by simpa [St.setAll] using hy)
  | (.t n, ty) :: r, l, s, h, hf, u, y, hy => by
    simp only [St.get] at h
    split at h
    · rename_i x l' h1 h2
      obtain rfl : x :: l' = l := by simpa using h
      simp only [tysOf, fitsL] at hf
      simp only [St.setAll] at hy
      rcases setAll_env h2 hf.2 u y hy with e | e
      · exact .inl e
      · simp only [St.put] at e
        split at e
        · rename_i hu
          obtain rfl := nbeq.1 hu
          obtain rfl : x = y := by simpa using e
          exact .inl ⟨h1, fits_plain hf.1⟩
        · exact .inr e
    · cases h
  | (.b n, ty) :: r, l, s, h, hf, u, y, hy => by
    simp only [St.get] at h
    split at h
    · rename_i b t c l' h1 h2
      obtain rfl : c :: l' = l := by simpa using h
      simp only [tysOf, fitsL] at hf
      simp only [St.setAll] at hy
      split at hy
      · exact (setAll_env h2 hf.2 u y hy).imp id (fun e => by simpa [St.putB] using e)
      · exact setAll_env h2 hf.2 u y hy
    · cases h

theorem setAll_bx {s1 : St} : ∀ {ks : List (Key × Ty)} {l : List SV} {s : St}, s1.get ks = some l → ∀ i b t c, (s.setAll ks l).bx i = some (.box b t c) →
    ∃ c0, s.bx i = some (.box b t c0) ∧ ((c = c0 ∧ ∀ ty, (Key.b i, ty) ∉ ks) ∨ ((∃ ty, (Key.b i, ty) ∈ ks) ∧ ∃ b1 t1, s1.bx i = some (.box b1 t1 c)))
  | [], l, s, h, i, b, t, c, hy => ⟨c, (by cases l <;> simpa [St.setAll] using hy), .inl ⟨rfl, by simp⟩⟩
  | (.t n, ty) :: r, l, s, h, i, b, t, c, hy => by
    simp only [St.get] at h
    split at h
    · rename_i x l' h1 h2
      obtain rfl : x :: l' = l := by simpa using h
      simp only [St.setAll] at hy
      obtain ⟨c0, e1, e2⟩ := setAll_bx h2 i b t c hy
      refine ⟨c0, e1, e2.imp (fun e => ⟨e.1, fun ty' hm => ?_⟩) (fun e => ⟨?_, e.2⟩)⟩
      · rcases List.mem_cons.1 hm with hm | hm
        · cases hm
        · exact e.2 ty' hm
      · obtain ⟨ty', hm⟩ := e.1
        exact ⟨ty', List.mem_cons_of_mem _ hm⟩
    · cases h
  | (.b n, ty) :: r, l, s, h, i, b, t, c, hy => by
    simp only [St.get] at h
    split at h
    · rename_i b1 t1 c1 l' h1 h2
      obtain rfl : c1 :: l' = l := by simpa using h
      simp only [St.setAll] at hy
      split at hy
      · rename_i b2 t2 c2 hs
        obtain ⟨c0, e1, e2⟩ := setAll_bx h2 i b t c hy
        simp only [St.putB] at e1
        by_cases hin : i = n
        · subst hin
          simp at e1
          obtain ⟨rfl, rfl, rfl⟩ := e1
          refine ⟨c2, hs, .inr ⟨⟨ty, by simp⟩, ?_⟩⟩
          rcases e2 with ⟨rfl, _⟩ | ⟨_, e2⟩
          · exact ⟨_, _, h1⟩
          · exact e2
        · rw [nbeq_false.2 hin] at e1
          refine ⟨c0, e1, e2.imp (fun e => ⟨e.1, fun ty' hm => ?_⟩) (fun e => ⟨?_, e.2⟩)⟩
          · rcases List.mem_cons.1 hm with hm | hm
            · cases hm; exact hin rfl
            · exact e.2 ty' hm
          · obtain ⟨ty', hm⟩ := e.1
            exact ⟨ty', List.mem_cons_of_mem _ hm⟩
      · rename_i hno
        obtain ⟨c0, e1, e2⟩ := setAll_bx h2 i b t c hy
        have hin : i ≠ n := by
          rintro rfl
          exact hno _ _ _ e1
        refine ⟨c0, e1, e2.imp (fun e => ⟨e.1, fun ty' hm => ?_⟩) (fun e => ⟨?_, e.2⟩)⟩
        · rcases List.mem_cons.1 hm with hm | hm
          · cases hm; exact hin rfl
          · exact e.2 ty' hm
        · obtain ⟨ty', hm⟩ := e.1
          exact ⟨ty', List.mem_cons_of_mem _ hm⟩
    · cases h

/-- behind a piece of code: the state that goes on -/
theorem Rel.forget {s1 : St} {w1 : World} {a' : Act} {wa' : World} (h0 : Rel X N s w a wa) (h1 : Rel X N s1 w1 a' wa') {W : List Nat} (hf : Fr W a a') {ks : List (Key × Ty)} {bs : List Nat} {l : List SV}
    (hsame : ∀ i ∈ bs, s1.bx i = s.bx i) (hnum : ∀ n t, (Key.b n, t) ∈ ks → boxBT (s1.bx n) = boxBT (s.bx n)) (hget : s1.get ks = some l) (hfit : fitsL (tysOf ks) l) :
    Rel X N ((s.forget W ks bs).setAll ks l) wa' a' wa' := by
  obtain ⟨e1, e2, e3, e4, e5, e6⟩ := setAll_nb ks l (s.forget W ks bs)
  have hbx : ∀ i b t c, ((s.forget W ks bs).setAll ks l).bx i = some (.box b t c) → (∃ c0, s.bx i = some (.box b t c0)) ∧ s1.bx i = some (.box b t c) := by
    intro i b t c hb
    obtain ⟨c0, g1, g2⟩ := setAll_bx hget i b t c hb
    simp only [St.forget] at g1
    split at g1
    · rename_i hin
      have hs1 := hsame i (hasN_iff.1 hin)
      rcases g2 with ⟨rfl, _⟩ | ⟨_, b1, t1, g2⟩
      · exact ⟨⟨_, g1⟩, by rw [hs1]; exact g1⟩
      · rw [hs1, g1] at g2
        simp at g2
        obtain ⟨rfl, rfl, rfl⟩ := g2
        exact ⟨⟨_, g1⟩, by rw [hs1]; exact g1⟩
    · split at g1
      · rename_i hany
        rcases g2 with ⟨rfl, hno⟩ | ⟨⟨ty, hm⟩, b1, t1, g2⟩
        · exfalso
          obtain ⟨⟨k, ty⟩, hk1, hk2⟩ := List.any_eq_true.1 hany
          cases k with
          | t n => simp at hk2
          | b n =>
            obtain rfl := nbeq.1 hk2
            exact hno ty hk1
        · have := hnum i ty hm
          rw [g1, g2] at this
          simp [boxBT] at this
          obtain ⟨rfl, rfl⟩ := this
          exact ⟨⟨_, g1⟩, g2⟩
      · cases g1
  have henv : ∀ u y, ((s.forget W ks bs).setAll ks l).env u = some y → (s1.env u = some y ∧ plain y = true) ∨ (u ∉ W ∧ s.env u = some y) := by
    intro u y hy
    refine (setAll_env hget hfit u y hy).imp id (fun e => ?_)
    simp only [St.forget] at e
    split at e
    · cases e
    · rename_i hW
      exact ⟨(fun hm => by rw [hasN_iff.2 hm] at hW; cases hW), e⟩
  exact {
    defers := h1.defers
    size := h1.size
    env := fun u y hy => by
      rcases henv u y hy with ⟨g1, g2⟩ | ⟨g1, g2⟩
      · exact (relv_plain g2).2 ((relv_plain g2).1 (h1.env u y g1))
      · have := h0.env u y g2
        rw [hf u g1]
        cases y <;> simp only [RelV] at this ⊢ <;> try exact this
        intro b t c hb
        obtain ⟨⟨c0, g3⟩, _⟩ := hbx _ b t c hb
        exact this b t c0 g3
    bx := fun i b t c hb => by
      obtain ⟨⟨c0, g1⟩, g2⟩ := hbx i b t c hb
      refine ⟨?_, (h1.bx i b t c g2).2⟩
      rw [e1]
      exact (h0.bx i b t c0 g1).1
    sep := fun i j b t c b' t' c' hi hj => h1.sep i j b t c b' t' c' (hbx i b t c hi).2 (hbx j b' t' c' hj).2
    lp := fun u id off p hu => by
      rw [e1]
      rcases henv u _ hu with ⟨_, g2⟩ | ⟨_, g2⟩
      · simp [plain] at g2
      · exact h0.lp u id off p g2
    nb0 := by rw [e1, e2]; exact Nat.le_refl _
    newIn := fun i b t c hb hn => by
      obtain ⟨⟨c0, g1⟩, g2⟩ := hbx i b t c hb
      have := (h0.bx i b t c0 g1).1
      rw [e2] at hn
      have hn : s.nb ≤ i := hn
      omega
    modIn := fun i b t c hb hn => by rw [e3] at hn; exact absurd hn (by simp [St.forget, St.clean])
    idlt := by rw [e3]; simp [St.forget, St.clean]
    upd := by
      rw [e4, e5]
      exact Upd.refl wa'
    cln := fun _ => rfl }
end
end Go.Vc
end

section
namespace Go.Vc
open Go.RowKit (Below)
set_option linter.unusedSimpArgs false
set_option linter.unusedVariables false
set_option autoImplicit false

/-- i waits for j, at once or through others -/
inductive Anc (ops : Array Oper) : Nat → Nat → Prop
  | one {i j : Nat} {o : Oper} {e : Edge} : ops[i]? = some o → e ∈ o.after → Region.binds .any e = true → e.on = j → Anc ops i j
  | more {i j : Nat} {o : Oper} {e : Edge} : ops[i]? = some o → e ∈ o.after → Region.binds .any e = true → Anc ops e.on j → Anc ops i j

theorem ancOf_sound {ops : Array Oper} {j : Nat} : ∀ {n i : Nat}, ancOf ops.toList n i j = true → Anc ops i j
  | 0, i, h => by simp [ancOf] at h
  | n + 1, i, h => by
    simp only [ancOf, nth_eq] at h
    split at h
    · rename_i o ho
      obtain ⟨e, he, h⟩ := List.any_eq_true.1 h
      simp only [Bool.and_eq_true, Bool.or_eq_true] at h
      have ho : ops[i]? = some o := by simpa using ho
      rcases h.2 with h2 | h2
      · exact .one ho (by simpa using he) h.1 (nbeq.1 h2)
      · exact .more ho (by simpa using he) h.1 (ancOf_sound h2)
    · cases h

def Down (ops : Array Oper) (listed : Array Bool) : Prop := ∀ i o, ops[i]? = some o → listed.getD i false = true → ∀ e ∈ o.after, Region.binds .any e = true → listed.getD e.on false = true

theorem Down.anc {ops : Array Oper} {listed : Array Bool} (h : Down ops listed) {i j : Nat} (ha : Anc ops i j) : listed.getD i false = true → listed.getD j false = true := by
  induction ha with
  | one ho he hb hj => intro hl; subst hj; exact h _ _ ho hl _ he hb
  | more ho he hb _ ih => intro hl; exact ih (h _ _ ho hl _ he hb)

theorem getD_set_iff {listed : Array Bool} {i m : Nat} (h : (listed.setIfInBounds i true).getD m false = true) : m = i ∨ listed.getD m false = true := by
  by_cases hmi : i = m
  · exact .inl hmi.symm
  · rw [getD_set_ne false hmi] at h; exact .inr h

theorem Down.set {ops : Array Oper} {listed : Array Bool} (h : Down ops listed) {i : Nat} (hr : i ∈ Region.ready .any ops listed) : Down ops (listed.setIfInBounds i true) := by
  intro m o ho hm e he hb
  rcases getD_set_iff hm with rfl | hm
  · obtain ⟨_, o', ho', hall⟩ := mem_ready.1 hr
    rw [ho] at ho'
    obtain rfl : o = o' := by simpa using ho'
    exact getD_set_true (hall e he hb)
  · exact getD_set_true (h m o ho hm e he hb)

theorem Down.ready {ops : Array Oper} {listed : Array Bool} (h : Down ops listed) {i j : Nat} (hr : i ∈ Region.ready .any ops listed) (ha : Anc ops i j) : listed.getD j false = true := by
  obtain ⟨_, o, ho, hall⟩ := mem_ready.1 hr
  cases ha with
  | one ho' he hb hj =>
    rw [ho] at ho'
    obtain rfl : o = _ := by simpa using ho'
    subst hj; exact hall _ he hb
  | more ho' he hb ha =>
    rw [ho] at ho'
    obtain rfl : o = _ := by simpa using ho'
    exact h.anc ha (hall _ he hb)

theorem unlisted {ops : Array Oper} {listed : Array Bool} {i : Nat} (hr : i ∈ Region.ready .any ops listed) : listed.getD i false = false := by
  have h0 := (mem_ready.1 hr).1
  rcases Nat.lt_or_ge i listed.size with h' | h'
  · simp [h'] at h0 ⊢; exact h0
  · simp [Array.getElem?_eq_none h']

theorem racesFrom_false {all : List Oper} {i : Nat} : ∀ {l : List Oper} {j : Nat}, racesFrom all i l j = false → ∀ m o, l[m]? = some o → isLoad o = true → i = j + m ∨ ancOf all all.length i (j + m) = true
  | [], j, h, m, o, ho, hl => by simp at ho
  | x :: r, j, h, m, o, ho, hl => by
    simp only [racesFrom, Bool.or_eq_false_iff] at h
    cases m with
    | zero =>
      simp at ho
      subst ho
      rw [hl] at h
      simp at h
      by_cases hij : i = j
      · exact .inl (by omega)
      · exact .inr (by simpa using h.1 (nbeq_false.2 hij))
    | succ m =>
      have := racesFrom_false h.2 m o (by simpa using ho) hl
      rw [show j + (m + 1) = j + 1 + m by omega]
      exact this

/-- does it leave what was there as it was? -/
def strictOp (X : Tab) (ops : Array Oper) (i : Nat) : Bool := match ops[i]? with | some o => racesWith ops.toList i || quiet X o | none => true

theorem strict_anc {X : Tab} {ops : Array Oper} {j : Nat} (h : strictOp X ops j = false) {l : Nat} {o : Oper} (hl : ops[l]? = some o) (ho : isLoad o = true) (hne : l ≠ j) : Anc ops j l := by
  unfold strictOp at h
  split at h
  · simp only [Bool.or_eq_false_iff, racesWith] at h
    rcases racesFrom_false h.1 l o (by simpa using hl) ho with e | e
    · omega
    · exact ancOf_sound (by simpa using e)
  · cases h

section
variable {X : Tab} {ops : Array Oper} {Q : Exit → Act → World → Prop} {C : World → Prop}

def AllStrict (X : Tab) (ops : Array Oper) (listed : Array Bool) : Prop := ∀ m, listed.getD m false = true → strictOp X ops m = true

/-- 'wpAny' that keeps account of what leaves things as they were -/
def wpAnyC (X : Tab) (C : World → Prop) (ops : Array Oper) (Q : Exit → Act → World → Prop) : Nat → Array Bool → Act → World → Prop
  | 0, listed, a, w => Region.ready .any ops listed = [] ∧ Q .normal a w
  | fuel + 1, listed, a, w =>
    (Region.ready .any ops listed = [] → Q .normal a w) ∧
    ∀ i ∈ Region.ready .any ops listed, wpOp X.P ops Q i (fun a' w' => (strictOp X ops i = true → AllStrict X ops listed → C w') ∧ wpAnyC X C ops Q fuel (listed.setIfInBounds i true) a' w') a w

theorem wpAny_of_C : ∀ (fuel : Nat) (listed : Array Bool) (a : Act) (w : World), wpAnyC X C ops Q fuel listed a w → wpAny X.P .any ops Q fuel listed a w
  | 0, _, _, _, h => h
  | fuel + 1, listed, a, w, h => ⟨h.1, fun i hi => wpOp_mono (fun a' w' hh => wpAny_of_C fuel _ a' w' hh.2) (h.2 i hi)⟩

/-- it yields this value wherever C holds (a load) or in any world -/
def YieldsC (X : Tab) (C : World → Prop) (ops : Array Oper) (o : Oper) (v : Value) (a : Act) : Prop :=
  (Region.wanted o (yielded ops a.tmps) = true ∧ ∀ w, (isLoad o = true → C w) → (execOp a.eval o).run X.P w = .ok (.value v) w) ∨
  (Region.wanted o (yielded ops a.tmps) = false ∧ v = undef)

theorem YieldsC.wpOp {i : Nat} {o : Oper} {v : Value} {a : Act} (hi : ops[i]? = some o) (hy : YieldsC X C ops o v a)
    {K : Act → World → Prop} {w : World} (hc : isLoad o = true → C w) (h : K (a.put o.dst v) w) : wpOp X.P ops Q i K a w := by
  unfold Go.wpOp
  simp only [hi]
  rcases hy with ⟨hw, hv⟩ | ⟨hw, rfl⟩
  · simp only [hw, if_true, Oper.wp, hv w hc, Oper.upon]; exact .inl h
  · simp only [hw, Bool.false_eq_true, if_false]; exact h

theorem YieldsC.of_same {o : Oper} {v : Value} {a a' : Act} (hy : YieldsC X C ops o v a) (he : execOp a'.eval o = execOp a.eval o)
    (hw : Region.wanted o (yielded ops a'.tmps) = Region.wanted o (yielded ops a.tmps)) : YieldsC X C ops o v a' := by
  unfold YieldsC at *
  rw [he, hw]
  exact hy

theorem wpOp_putC {j : Nat} {oi oj : Oper} {v : Value} (hj : ops[j]? = some oj) (hap : oi.apart ops oj = true)
    (hsi : ∀ cs b, oi.op ≠ .select cs b) (hsj : ∀ cs b, oj.op ≠ .select cs b)
    (hQ : ∀ c a w, ¬ Q (.panic c) a w) (hO : ∀ a w, ¬ Q .outgrown a w) {K : Act → World → Prop} {a : Act} {w : World}
    (hy : YieldsC X C ops oi v a) (h : wpOp X.P ops Q j K (a.put oi.dst v) w) :
    wpOp X.P ops Q j (fun a' w' => YieldsC X C ops oi v a' ∧ K (a'.put oi.dst v) w') a w := by
  obtain ⟨h1, h2, h3⟩ := Oper.apart_spec hap
  have keep : ∀ (a : Act), YieldsC X C ops oi v a → ∀ u, YieldsC X C ops oi v (a.put oj.dst u) := fun a hy u =>
    hy.of_same (execOp_put oi hsi a oj.dst u h3) (wanted_put oi a oj.dst u h3)
  have keepD : ∀ d, YieldsC X C ops oi v { a with defers := d :: a.defers } := fun d => hy.of_same rfl rfl
  unfold wpOp at *
  simp only [hj] at *
  rw [wanted_put oj a oi.dst v h1] at h
  split
  · rename_i hw
    simp only [hw, if_true] at h
    rcases h with h | ⟨hasks, hlets⟩
    case inr => exact .inr ⟨by unfold Oper.asks at *; rw [execOp_put oj hsj a oi.dst v h1] at hasks; exact hasks, hlets⟩
    refine .inl ?_
    unfold Oper.wp at *
    rw [execOp_put oj hsj a oi.dst v h1] at h
    generalize (execOp a.eval oj).run X.P w = r at *
    cases r with
    | ok n w' =>
      cases n <;> simp only [Oper.upon] at h ⊢
      case value u => exact ⟨keep a hy u, by rw [← Act.put_comm a v u h2]; exact h⟩
      case skip => exact ⟨keep a hy _, by rw [← Act.put_comm a v undef h2]; exact h⟩
      case defer d =>
        refine ⟨keep _ (keepD d) _, ?_⟩
        rw [← Act.put_comm _ v undef h2, ← Act.put_defers]
        exact h
      case enter f args =>
        refine Calls.mono h fun e w'' he => ?_
        cases e with
        | returned u => exact ⟨keep a hy u, by rw [← Act.put_comm a v u h2]; exact he⟩
        | panicked c => exact absurd he (hQ _ _ _)
        | outgrown => exact he
      case row row args => exact Rows.mono h fun u w'' he => ⟨keep a hy u, by rw [← Act.put_comm a v u h2]; exact he⟩
    | halt x w' =>
      cases x <;> simp only [Oper.upon] at h ⊢
      case panic u => exact absurd h (hQ _ _ _)
  · rename_i hw
    simp only [hw] at h
    exact ⟨keep a hy _, by rw [← Act.put_comm a v undef h2]; exact h⟩

/-- a quiet operation is carried out first -/
theorem wpAnyC_first {i : Nat} {oi : Oper} {v : Value} (hi : ops[i]? = some oi) (hsel : ∀ (j : Nat) (o : Oper) cs b, ops[j]? = some o → o.op ≠ .select cs b)
    (hQ : ∀ c a w, ¬ Q (.panic c) a w) (hO : ∀ a w, ¬ Q .outgrown a w) (hst : strictOp X ops i = true) :
    ∀ (fuel : Nat) (listed : Array Bool) (a : Act) (w : World),
      (∀ j oj, ops[j]? = some oj → j ≠ i → listed.getD j true = false → (∀ e ∈ oj.after, Region.binds .any e = true → e.on ≠ i) → oi.apart ops oj = true) →
      i ∈ Region.ready .any ops listed → Down ops listed → (AllStrict X ops listed → C w) → YieldsC X C ops oi v a →
      wpAnyC X C ops Q fuel (listed.setIfInBounds i true) (a.put oi.dst v) w → wpAnyC X C ops Q (fuel + 1) listed a w := by
  -- a load that is not done yet: all that is done is strict
  have hload : ∀ listed, i ∈ Region.ready .any ops listed → Down ops listed → isLoad oi = true → AllStrict X ops listed := by
    intro listed hr hd hl m hm
    cases hs : strictOp X ops m with
    | true => rfl
    | false =>
      exfalso
      have hun := unlisted hr
      have hne : i ≠ m := by rintro rfl; rw [hun] at hm; cases hm
      have := hd.anc (strict_anc hs hi hl hne) hm
      rw [hun] at this
      cases this
  have hloadj : ∀ listed j, i ∈ Region.ready .any ops listed → Down ops listed → isLoad oi = true → j ∈ Region.ready .any ops listed → j ≠ i → strictOp X ops j = true := by
    intro listed j hr hd hl hj hji
    cases hs : strictOp X ops j with
    | true => rfl
    | false =>
      exfalso
      have := hd.ready hj (strict_anc hs hi hl (Ne.symm hji))
      rw [unlisted hr] at this
      cases this
  have hall : ∀ listed, AllStrict X ops listed → AllStrict X ops (listed.setIfInBounds i true) := by
    intro listed h m hm
    rcases getD_set_iff hm with rfl | hm
    · exact hst
    · exact h m hm
  intro fuel
  induction fuel with
  | zero =>
    intro listed a w _ hr hd hc hy H
    refine ⟨fun h => (by rw [h] at hr; cases hr), fun j hj => ?_⟩
    by_cases hji : j = i
    · subst hji; exact hy.wpOp hi (fun hl => hc (hload _ hr hd hl)) ⟨fun _ h => hc h, H⟩
    · have := ready_mono hj hji
      rw [H.1] at this
      cases this
  | succ fuel ih =>
    intro listed a w hfree hr hd hc hy H
    refine ⟨fun h => (by rw [h] at hr; cases hr), fun j hj => ?_⟩
    by_cases hji : j = i
    · subst hji; exact hy.wpOp hi (fun hl => hc (hload _ hr hd hl)) ⟨fun _ h => hc h, H⟩
    · have h1 := H.2 j (ready_mono hj hji)
      obtain ⟨hjun, oj, hoj, hallj⟩ := mem_ready.1 hj
      have hnot : ∀ e ∈ oj.after, Region.binds .any e = true → e.on ≠ i := fun e he hb heq => by
        have h1 := hallj e he hb
        rw [heq, unlisted hr] at h1
        cases h1
      have h2 := wpOp_putC hoj (hfree j oj hoj hji hjun hnot) (fun cs b => hsel i oi cs b hi) (fun cs b => hsel j oj cs b hoj) hQ hO hy h1
      have hfree' : ∀ k ok, ops[k]? = some ok → k ≠ i → (listed.setIfInBounds j true).getD k true = false →
          (∀ e ∈ ok.after, Region.binds .any e = true → e.on ≠ i) → oi.apart ops ok = true := fun k ok hk hki hun hno => by
        refine hfree k ok hk hki ?_ hno
        by_cases hjk : j = k
        · subst hjk; exact hjun
        · rw [getD_set_ne true hjk] at hun; exact hun
      refine wpOp_mono (fun a' w' h3 => ⟨fun h4 h5 => h3.2.1 h4 (hall _ h5), ?_⟩) h2
      refine ih (listed.setIfInBounds j true) a' w' hfree' (ready_mono hr (Ne.symm hji)) (hd.set hj) (fun h5 => ?_) h3.1 ?_
      · have hsj : strictOp X ops j = true := h5 j (by
          have hlt := (Array.getElem?_eq_some_iff.1 hoj).1
          have : listed.getD j true = false := hjun
          rcases Nat.lt_or_ge j listed.size with h' | h'
          · simp [h']
          · simp [Array.getElem?_eq_none h'] at this)
        have hold : AllStrict X ops listed := fun m hm => h5 m (getD_set_true hm)
        exact h3.2.1 hsj (hall _ hold)
      · rw [Array.setIfInBounds_comm _ _ hji]
        exact h3.2.2
end
end Go.Vc
end

section
namespace Go.Vc
open Go.RowKit (Below)
set_option linter.unusedSimpArgs false
set_option linter.unusedVariables false
set_option autoImplicit false

section
variable {X : Tab} (ok : TabOK X) {N : Nat} {ops : Array Oper} {Q : Exit → Act → World → Prop} {K : Option (List Nat)}

/-- what loads rely on: w0 and the local structs of s0 as they were -/
def Was0 (K : Option (List Nat)) (w0 w : World) : Prop := match K with | none => Upd [] [] w0 w | some bs => (∀ b, b ∈ bs → b < w0.heap.size) ∧ Kept bs w0 w
theorem Was0.trans {K : Option (List Nat)} {w0 w w1 : World} (h : Was0 K w0 w) (u : Upd [] [] w w1) : Was0 K w0 w1 := by
  cases K with
  | none => exact Upd.trans h u
  | some bs =>
    refine ⟨h.1, fun b hb => ?_⟩
    have h1 := h.2 b hb
    have h2 := h.1 b hb
    have h3 : b < w.heap.size := by
      rw [Array.getElem?_eq_getElem h2] at h1
      rcases Nat.lt_or_ge b w.heap.size with h4 | h4
      · exact h4
      · rw [Array.getElem?_eq_none h4] at h1; cases h1
    rw [u.keep b h3 (by simp), h1]
theorem Was0.cell {K : Option (List Nat)} {w0 w : World} {F : Prop} {ad : Addr} {j : Nat} {v : Value} (h : Was0 K w0 w) (hk : kin K ad.block F) (hv : w0.cell? (ad.add j) = some v) : w.cell? (ad.add j) = some v := by
  cases K with
  | none => exact Upd.cell h hv (by simp)
  | some bs =>
    have h1 := h.2 ad.block hk.1
    have hb : (ad.add j).block = ad.block := by cases ad; rename_i sp; cases sp <;> simp only [Addr.add] <;> split <;> rfl
    rw [← hv]
    unfold World.cell?
    rw [hb, h1]
theorem kin_F {K : Option (List Nat)} {b : Nat} {F : Prop} (h : kin K b F) : F := by cases K with | none => exact h | some bs => exact h.2
theorem knew_iff {K : Option (List Nat)} {w0 w : World} {F : Prop} (h : knew K w0 w F) (hb : Was0 K w0 w0) : Was0 K w0 w ∧ F := by
  cases K with
  | none => exact h
  | some bs => exact ⟨⟨hb.1, h.1⟩, h.2⟩
def Was (K : Option (List Nat)) (s0 : St) (w0 : World) (n0 : Nat) (w : World) : Prop :=
  Was0 K w0 w ∧ ∀ i b t c, i < n0 → s0.bx i = some (.box b t c) → w.heap[b]? = some (.cells c.cells.toArray t (0, 0))

include ok in
theorem cells_load {ad : Addr} {t : Nat} {wa : World} {x : SV} (h1 : x.shape (X.T t) = true) (hD : isData (X.T t) = true) (h3' : ∀ j u, x.cells[j]? = some u → wa.cell? (ad.add j) = some u) :
    (Instr.loadAt t (.pointer (some ad))).run X.P wa = .ok x.enc wa := by
  simp only [Instr.loadAt, Instr.sureAddr, loadVar, Sem.run_bind, Sem.run_pure, Result.andThen_ok, isAgg_run ok t hD, sizeOf_run ok t hD]
  cases hag : isAggTy (X.T t) with
  | true =>
    have hlc := run_loadCells_list (P := X.P) wa ad x.cells h3'
    rw [shape_size h1] at hlc
    simp only [if_true, Sem.run_bind, sizeOf_run ok t hD, Result.andThen_ok, hlc, Sem.run_pure]
    rw [enc_agg h1 hag]
  | false =>
    have hsc := enc_scalar h1 hag
    have := h3' 0 x.enc (by rw [hsc]; rfl)
    have h0 : ad.add 0 = ad := rfl
    rw [h0] at this
    simp [run_load, this]

theorem load_allStrict {i : Nat} {oi : Oper} (hi : ops[i]? = some oi) {listed : Array Bool} (hr : i ∈ Region.ready .any ops listed) (hd : Down ops listed) (hl : isLoad oi = true) : AllStrict X ops listed := by
  intro m hm
  cases hs : strictOp X ops m with
  | true => rfl
  | false =>
    exfalso
    have hun := unlisted hr
    have hne : i ≠ m := by rintro rfl; rw [hun] at hm; cases hm
    have := hd.anc (strict_anc hs hi hl hne) hm
    rw [hun] at this
    cases this

include ok in
theorem early_sound {s s0 : St} {w w0 wa : World} {a : Act} {o : Oper} {n0 : Nat} {F : SV → Prop} (h : earlyVC K X s w0 n0 o F) (hr : Rel X N s w a wa)
    (hsh : ∀ i b t c, s0.bx i = some (.box b t c) → c.shape (X.T t) = true) (hb : isLoad o = true → ∀ i, i < n0 → s.bx i = s0.bx i) :
    ∃ v sv, RelV X s v sv ∧ F sv ∧ LP s sv ∧ ∀ w', (isLoad o = true → Was K s0 w0 n0 w') → (execOp a.eval o).run X.P w' = .ok (.value v) w' := by
  by_cases hl : isLoad o = true
  · unfold isLoad at hl
    cases hop : o.op <;> simp only [hop] at hl <;> try (cases hl; done)
    rename_i t x
    have hl : isLoad o = true := by simp [isLoad, hop]
    unfold earlyVC at h
    simp only [hop] at h
    split at h
    · rename_i p e1
      have hxv := hr.ev x _ e1
      simp only [RelV, SV.enc] at hxv
      obtain ⟨ad, rfl, h1⟩ := deref_iff.1 h
      -- the value does not depend on the world
      have hkin := h1
      obtain ⟨v, h2, h3, h4⟩ := loadVC_cells (kin_F h1)
      refine ⟨v.enc, v, (relv_shape h2).2 rfl, h3, (fun id off p e => by subst e; simp [SV.shape] at h2), fun w' hw' => ?_⟩
      obtain ⟨hu, _⟩ := hw' hl
      have h7 := cells_load ok (wa := w') h2 (loadVC_data (kin_F h1)) (ad := ad) (fun j u hj => hu.cell hkin (by simpa using h4 j u hj))
      simp [execOp, hop, hxv, h7]
    · rename_i id off p e1
      split at h
      · rename_i hid
        have hid : id < n0 := by simpa using hid
        unfold pureVC at h
        simp only [hop] at h
        rw [e1] at h
        simp only at h
        split at h
        · rename_i hli
          have hxv := hr.ev x _ e1
          obtain ⟨b, bt, c, g1, g2, g3⟩ := lIs_path hxv hli
          have g0 := hb hl id hid
          rw [g1] at g0
          have k3 := hsh id b bt c g0.symm
          have hD : isData (X.T t) = true := by
            obtain ⟨y, hy, hys, _⟩ := path_get k3 g3
            cases hT : X.T t <;> rw [hT] at hys <;> first | rfl | (cases y <;> simp [SV.shape] at hys)
          obtain ⟨y, h6, h7, pre, post, h8, h9, _⟩ := path_get k3 g3
          have hF : F y := by
            rw [g1] at h
            obtain ⟨z, h4, h5⟩ := ifSome_iff.1 h
            rw [h6] at h4
            obtain rfl : y = z := by simpa using h4
            exact h5
          refine ⟨y.enc, y, (relv_shape h7).2 rfl, hF, (fun id off p e => by subst e; simp [SV.shape] at h7), fun w' hw' => ?_⟩
          obtain ⟨_, hbx⟩ := hw' hl
          obtain ⟨z, k4, rfl, k6⟩ := box_load (F := fun z => z = y) (wa := w') ok (fun b' t' c' hb' => by
            rw [g1] at hb'
            simp at hb'
            obtain ⟨rfl, rfl, rfl⟩ := hb'
            exact ⟨hbx id b bt c hid g0.symm, k3⟩) hxv hli hD (by rw [g1]; exact ifSome_iff.2 ⟨y, h6, rfl⟩)
          simp [execOp, hop, k6]
        · cases h
      · cases h
    · cases h
  · have hl : isLoad o = false := by simpa using hl
    have hp : pureVC X s o F := by
      unfold earlyVC at h
      split at h
      · rename_i t x hop
        simp [isLoad, hop] at hl
      · exact h
    obtain ⟨v, sv, h1, h2, h3, h4⟩ := pure_sound ok hr.ev hl hp
    exact ⟨v, sv, h1, h2, h3, fun w' _ => h4 w'⟩

/-- where a tree stands -/
structure At (K : Option (List Nat)) (X : Tab) (N : Nat) (ops : Array Oper) (s0 : St) (w0 : World) (a0 : Act) (listed : Array Bool) (s : St) (w : World) (a : Act) (wa : World) : Prop where
  rel : Rel X N s w a wa
  fr : Fr (opsW ops.toList) a0 a
  down : Down ops listed
  nb : s0.nb ≤ s.nb
  base : Was0 K w0 w0
  was : AllStrict X ops listed → Was0 K w0 wa ∧ ∀ i, i < s0.nb → s.bx i = s0.bx i

theorem At.C {s0 : St} {w0 : World} {a0 : Act} {listed : Array Bool} {s : St} {w : World} {a : Act} {wa : World} (h : At K X N ops s0 w0 a0 listed s w a wa) (hs : AllStrict X ops listed) : Was K s0 w0 s0.nb wa := by
  obtain ⟨h1, h2⟩ := h.was hs
  exact ⟨h1, fun i b t c hi hb => (h.rel.bx i b t c (by rw [h2 i hi]; exact hb)).2.1⟩

theorem allStrict_set {listed : Array Bool} {i : Nat} (h : AllStrict X ops (listed.setIfInBounds i true)) : AllStrict X ops listed := fun m hm => h m (getD_set_true hm)
theorem strict_set {listed : Array Bool} {i : Nat} (hr : i ∈ Region.ready .any ops listed) (h : AllStrict X ops (listed.setIfInBounds i true)) : strictOp X ops i = true := h i (by
  have : listed.getD i true = false := (mem_ready.1 hr).1
  rcases Nat.lt_or_ge i listed.size with h' | h'
  · simp [h']
  · simp [Array.getElem?_eq_none h'] at this)

theorem fr_op {i : Nat} {o : Oper} (hi : ops[i]? = some o) {a0 a : Act} (h : Fr (opsW ops.toList) a0 a) (v : Value) : Fr (opsW ops.toList) a0 (a.put o.dst v) :=
  (h.trans (Fr.put a o.dst v)).mono (fun t ht => by
    rcases List.mem_append.1 ht with ht | ht
    · exact ht
    · exact mem_opsW (o := o) (List.mem_of_getElem? (i := i) (by simpa using hi)) (by simpa using ht))

theorem oneAnd_iff {α : Type} {r : List α} {A B : Prop} : oneAnd r A B → A ∧ (r = [] ∨ B) := by
  cases r with
  | nil => exact fun h => ⟨h, .inl rfl⟩
  | cons x r => exact fun h => ⟨h.1, .inr h.2⟩

include ok in
theorem tree_sound {s0 : St} {w0 : World} {a0 : Act} {k : St → World → Prop} (hs : Region.noSelect ops = true) (hN : ∀ t ∈ opsW ops.toList, t < N)
    (hsh : ∀ i b t c, s0.bx i = some (.box b t c) → c.shape (X.T t) = true)
    (hQ : ∀ c a w, ¬ Q (.panic c) a w) (hO : ∀ a w, ¬ Q .outgrown a w)
    (hk : ∀ s w a wa, k s w → Rel X N s w a wa → Fr (opsW ops.toList) a0 a → Q .normal a wa) :
    ∀ (t : Tree) (n : Nat) (listed : Array Bool) (s : St) (w : World) (a : Act) (wa : World), okFrom ops t n listed = true → treeVC K X ops.toList w0 s0.nb t s w k →
      At K X N ops s0 w0 a0 listed s w a wa → wpAnyC X (Was K s0 w0 s0.nb) ops Q n listed a wa := by
  intro t
  induction t using Tree.rec (motive_2 := fun l => ∀ (n : Nat) (listed : Array Bool) (is : List Nat) (s : St) (w : World) (a : Act) (wa : World), okFork ops l n listed is = true → forkVC K X ops.toList w0 s0.nb l s w k →
      At K X N ops s0 w0 a0 listed s w a wa → (∀ i ∈ is, i ∈ Region.ready .any ops listed) →
      ∀ i ∈ is, wpOp X.P ops Q i (fun a' w' => (strictOp X ops i = true → AllStrict X ops listed → Was K s0 w0 s0.nb w') ∧ wpAnyC X (Was K s0 w0 s0.nb) ops Q n (listed.setIfInBounds i true) a' w') a wa)
      (motive_3 := fun p => ∀ (n : Nat) (listed : Array Bool) (s : St) (w : World) (a : Act) (wa : World), okFrom ops p.2 n listed = true → treeVC K X ops.toList w0 s0.nb p.2 s w k →
      At K X N ops s0 w0 a0 listed s w a wa → wpAnyC X (Was K s0 w0 s0.nb) ops Q n listed a wa) with
  | done =>
    intro n listed s w a wa ho h hat
    simp only [okFrom, Bool.and_eq_true] at ho
    obtain rfl := nbeq.1 ho.1
    simp only [treeVC] at h
    exact ⟨by simpa using ho.2, hk s w a wa h hat.rel hat.fr⟩
  | early i t ih =>
    intro n listed s w a wa ho h hat
    cases n with
    | zero => simp [okFrom] at ho
    | succ n =>
      simp only [okFrom, Bool.and_eq_true] at ho
      obtain ⟨⟨h1, h2⟩, h3⟩ := ho
      have hr : i ∈ Region.ready .any ops listed := by simpa using h1
      simp only [treeVC, nth_eq, Array.getElem?_toList] at h
      cases hi : ops[i]? with
      | none => rw [hi] at h; cases h
      | some o =>
        rw [hi] at h
        simp only at h
        split at h
        case h_2 => cases h
        rename_i hq
        have hst : strictOp X ops i = true := by simp [strictOp, hi, hq]
        have hg := guard_sound h hat.rel
        have hd : ∀ t, o.dst = some t → t < N := fun t ht => hN t (mem_opsW (o := o) (List.mem_of_getElem? (i := i) (by simpa using hi)) ht)
        cases hw : Region.wanted o (yielded ops a.tmps) with
        | true =>
          obtain ⟨s1, hy, hr1, hb1, hn1, hm1⟩ := hg.1 hw
          have hbl : isLoad o = true → ∀ i, i < s0.nb → s1.bx i = s0.bx i := fun hl => by
            rw [hb1]
            exact (hat.was (load_allStrict hi hr hat.down hl)).2
          obtain ⟨v, sv, g1, g2, g3, g4⟩ := early_sound ok hy hr1 hsh hbl
          refine wpAnyC_first hi (Region.noSelect_spec hs) hQ hO hst n listed a wa (Region.free_spec hi h2) hr hat.down hat.C (v := v) (.inl ⟨hw, g4⟩) ?_
          refine ih n _ _ w _ wa h3 g2 ⟨hr1.putD hd g1 (lp_nb hr1 g3), fr_op hi hat.fr v, hat.down.set hr, by rw [putD_nb, hn1]; exact hat.nb, hat.base, fun hall => ?_⟩
          rw [putD_bx, hb1]
          exact hat.was (allStrict_set hall)
        | false =>
          obtain ⟨s1, hn, hr1, hb1, hn1, hm1⟩ := hg.2 hw
          refine wpAnyC_first hi (Region.noSelect_spec hs) hQ hO hst n listed a wa (Region.free_spec hi h2) hr hat.down hat.C (v := undef) (.inr ⟨hw, rfl⟩) ?_
          refine ih n _ _ w _ wa h3 hn ⟨hr1, fr_op hi hat.fr undef, hat.down.set hr, by rw [hn1]; exact hat.nb, hat.base, fun hall => ?_⟩
          rw [hb1]
          exact hat.was (allStrict_set hall)
  | fork l ih =>
    intro n listed s w a wa ho h hat
    cases n with
    | zero => simp [okFrom] at ho
    | succ n =>
      simp only [okFrom] at ho
      cases l with
      | nil => simp [treeVC] at h
      | cons p l =>
        simp only [treeVC] at h
        refine ⟨fun he => ?_, fun i hi => ih n listed _ s w a wa ho h hat (fun _ h => h) i hi⟩
        rw [he] at ho
        simp [okFork] at ho
  | nil =>
    rename_i n listed is s w a wa ho h hat hrd i hi
    cases is with
    | nil => cases hi
    | cons j is => simp [okFork] at ho
  | cons p l ihp ihl =>
    rename_i n listed is s w a wa ho h hat hrd i hi
    obtain ⟨j, t⟩ := p
    cases is with
    | nil => simp [okFork] at ho
    | cons x is =>
      simp only [okFork, Bool.and_eq_true] at ho
      obtain ⟨⟨h1, h2⟩, h3⟩ := ho
      obtain rfl := nbeq.1 h1
      simp only [forkVC] at h
      obtain ⟨hA, hB⟩ := oneAnd_iff h
      rcases List.mem_cons.1 hi with rfl | hi
      · have hr := hrd i (by simp)
        have hd' := hat.down.set hr
        simp only [nth_eq, Array.getElem?_toList] at hA
        unfold wpOp
        cases hio : ops[i]? with
        | none => rw [hio] at hA; cases hA
        | some o =>
          rw [hio] at hA
          simp only at hA ⊢
          have hg := guard_sound hA hat.rel
          have hd : ∀ t, o.dst = some t → t < N := fun t ht => hN t (mem_opsW (o := o) (List.mem_of_getElem? (i := i) (by simpa using hio)) ht)
          cases hw : Region.wanted o (yielded ops a.tmps) with
          | true =>
            simp only [if_true]
            left
            obtain ⟨s1, hy, hr1, hb1, hn1, hm1⟩ := hg.1 hw
            refine Oper.wp_mono ?_ (opVC_sound ok (Q := Q) hy hr1 hd)
            rintro a' wa' ⟨s', w', g1, g2, g3, g4, v, rfl⟩
            cases hst : strictOp X ops i with
            | true =>
              have hst' : (racesWith ops.toList i || quiet X o) = true := by simpa [strictOp, hio] using hst
              rw [hst'] at g1
              simp only [strictVC] at g1
              split at g1
              · cases g1
              · rename_i hse
                simp only [Bool.or_eq_false_iff] at hse
                split at g1
                · rename_i hmods
                  obtain ⟨g11, g12⟩ := knew_iff g1 hat.base
                  have hup : Was0 K w0 wa' := g11.trans (by have := g2.upd; rw [hmods] at this; exact this.mono (by simp) (by simp))
                  have hat' : At K X N ops s0 w0 a0 (listed.setIfInBounds i true) s' w' (a.put o.dst v) wa' := ⟨g2, fr_op hio hat.fr v, hd', by have := hat.nb; omega, hat.base, fun hall =>
                    ⟨hup, fun i' hi' => by rw [g4 hse.1 hse.2 i' (by rw [hn1]; have := hat.nb; omega), hb1]; exact (hat.was (allStrict_set hall)).2 i' hi'⟩⟩
                  refine ⟨fun _ hall => hat'.C (fun m hm => ?_), ihp n _ s' w' _ wa' h2 g12 hat'⟩
                  rcases getD_set_iff hm with rfl | hm
                  · exact hst
                  · exact hall m hm
                · cases g1
            | false =>
              have hst' : (racesWith ops.toList i || quiet X o) = false := by simpa [strictOp, hio] using hst
              rw [hst'] at g1
              refine ⟨(fun e => by cases e), ihp n _ s' w' _ wa' h2 g1 ⟨g2, fr_op hio hat.fr v, hd', by have := hat.nb; omega, hat.base, fun hall => ?_⟩⟩
              rw [strict_set hr hall] at hst
              cases hst
          | false =>
            simp only [Bool.false_eq_true, if_false]
            obtain ⟨s1, hn, hr1, hb1, hn1, hm1⟩ := hg.2 hw
            refine ⟨fun _ hall => hat.C hall, ihp n _ s1 w _ wa h2 hn ⟨hr1, fr_op hio hat.fr undef, hd', by rw [hn1]; exact hat.nb, hat.base, fun hall => ?_⟩⟩
            rw [hb1]
            exact hat.was (allStrict_set hall)
      · rcases hB with rfl | hB
        · cases is with
          | nil => cases hi
          | cons y is => simp [okFork] at h3
        · exact ihl n listed is s w a wa h3 hB hat (fun m hm => hrd m (by simp [hm])) i hi
  | mk i t ih => rename_i n listed s w a wa h1 h2 h3; exact ih _ _ _ _ _ _ h1 h2 h3
end
end Go.Vc
end

section
namespace Go.Vc
open Go.RowKit (Below)
set_option linter.unusedSimpArgs false
set_option linter.unusedVariables false
set_option autoImplicit false

theorem same_boxes {s1 s : St} : ∀ {bs : List Nat} {F : Prop}, sameBoxes s1 s bs F → (∀ i ∈ bs, s1.bx i = s.bx i) ∧ F
  | [], F, h => ⟨by simp, h⟩
  | i :: r, F, h => by
    simp only [sameBoxes] at h
    obtain ⟨h1, h2⟩ := same_boxes h.2
    refine ⟨fun j hj => ?_, h2⟩
    rcases List.mem_cons.1 hj with rfl | hj
    · exact h.1
    · exact h1 j hj
theorem same_nums {s1 s : St} : ∀ {ks : List (Key × Ty)} {F : Prop}, sameNums s1 s ks F → (∀ n t, (Key.b n, t) ∈ ks → boxBT (s1.bx n) = boxBT (s.bx n)) ∧ F
  | [], F, h => ⟨by simp, h⟩
  | (.t m, ty) :: r, F, h => by
    simp only [sameNums] at h
    obtain ⟨h1, h2⟩ := same_nums h
    refine ⟨fun n t hj => ?_, h2⟩
    rcases List.mem_cons.1 hj with hj | hj
    · cases hj
    · exact h1 n t hj
  | (.b m, ty) :: r, F, h => by
    simp only [sameNums] at h
    obtain ⟨h1, h2⟩ := same_nums h.2
    refine ⟨fun n t hj => ?_, h2⟩
    rcases List.mem_cons.1 hj with hj | hj
    · cases hj; exact h.1
    · exact h1 n t hj

theorem least {S : Nat → Prop} (h : ∃ n, S n) : ∃ n, S n ∧ ∀ m, S m → n ≤ m := by
  obtain ⟨n, hn⟩ := h
  induction n using Nat.strongRecOn with
  | _ n ih =>
    by_cases hm : ∃ m, m < n ∧ S m
    · obtain ⟨m, h1, h2⟩ := hm
      exact ih m h1 h2
    · exact ⟨n, hn, fun m hm' => Nat.le_of_not_lt fun hlt => hm ⟨m, hlt, hm'⟩⟩

section
variable {X : Tab} (ok : TabOK X) {N : Nat}

theorem Post.mono {k k' : St → World → Prop} {ex ex' : Nat → St → World → Prop} {ret ret' : St → World → Prop} {W W' : List Nat} {a0 a0' : Act}
    (hf : ∀ a, Fr W a0 a → Fr W' a0' a) {e : Exit} {a : Act} {w : World}
    (h : Post X N k ex ret W a0 e a w) (hk : ∀ s w, k s w → k' s w) (hex : ∀ i s w, ex i s w → ex' i s w) (hret : ∀ s w, ret s w → ret' s w) : Post X N k' ex' ret' W' a0' e a w := by
  cases e <;> simp only [Post] at h ⊢
  case normal => obtain ⟨⟨s, w, h1, h2⟩, h3⟩ := h; exact ⟨⟨s, w, hk _ _ h1, h2⟩, hf _ h3⟩
  case exit i => obtain ⟨⟨s, w, h1, h2⟩, h3⟩ := h; exact ⟨⟨s, w, hex _ _ _ h1, h2⟩, hf _ h3⟩
  case ret => obtain ⟨s, w, h1, h2⟩ := h; exact ⟨s, w, hret _ _ h1, h2⟩

/-- the parts behind a piece of code -/
theorem Post.then {b : Code} {k1 k : St → World → Prop} {ex : Nat → St → World → Prop} {ret : St → World → Prop} {W W' : List Nat} {a0 : Act}
    (hb : ∀ s w a wa, k1 s w → Rel X N s w a wa → Fr W a0 a → b.wp X.P (Post X N k ex ret W' a) a wa) :
    ∀ e a wa, Post X N k1 ex ret W a0 e a wa → Exit.then (b.wp X.P (Post X N k ex ret (W ++ W') a0)) (Post X N k ex ret (W ++ W') a0) e a wa := by
  intro e a wa h
  cases e <;> simp only [Post, Exit.then] at h ⊢
  case normal =>
    obtain ⟨⟨s, w, h1, h2⟩, h3⟩ := h
    exact wp_mono (hb s w a wa h1 h2 h3) (fun e a' w' hp => hp.mono (fun a'' hf => h3.trans hf) (fun _ _ h => h) (fun _ _ _ h => h) (fun _ _ h => h))
  case exit i => exact ⟨h.1, h.2.mono (by simp; intro t ht; exact .inl ht)⟩
  case ret => exact h

include ok in
theorem vc_sound : ∀ (c : Code) (n : Ann) (s : St) (w : World) (a : Act) (wa : World) (k : St → World → Prop) (ex : Nat → St → World → Prop) (ret : St → World → Prop),
    vc X c n s w k ex ret → Rel X N s w a wa → (∀ t ∈ codeW c, t < N) → c.wp X.P (Post X N k ex ret (codeW c) a) a wa := by
  intro c
  induction c with
  | skip =>
    intro n s w a wa k ex ret h hr hN
    simp only [vc] at h
    exact wp_skip ⟨⟨s, w, h, hr⟩, Fr.refl _ _⟩
  | region id ops draw =>
    intro n s w a wa k ex ret h hr hN
    simp only [codeW] at hN ⊢
    cases draw with
    | false =>
      simp only [vc] at h
      exact wp_region_list (opsVC_sound ok h hr hN (fun s' w' a' wa' h1 h2 h3 => ⟨⟨s', w', h1, h2⟩, h3⟩))
    | true =>
      have main : ∀ (K : Option (List Nat)) (t : Tree) (s' : St) (w' : World), Was0 K w' w' → okTree ops t = true → treeVC K X ops.toList w' s'.nb t { s' with dirty := true } w' k → Rel X N s' w' a wa → Upd [] [] w' wa → s'.mods = [] → (Code.region id ops true).wp X.P (Post X N k ex ret (opsW ops.toList) a) a wa := by
        intro K t s' w' hbase hok h1 h2 h3 h7
        simp only [okTree, Bool.and_eq_true] at hok
        refine wp_region_any ok.mixed (wpAny_of_C _ _ _ _ (tree_sound ok (K := K) (s0 := { s' with dirty := true }) (w0 := w') (a0 := a) (k := k) hok.1 hN
          (fun i b t c hb => (h2.bx i b t c hb).2.2) (fun _ _ _ h => h) (fun _ _ h => h) (fun s w a wa g1 g2 g3 => ⟨⟨s, w, g1, g2⟩, g3⟩) t _ _ _ w' a _ hok.2 h1 ?_))
        exact ⟨h2.drew, Fr.refl _ _, (fun i o _ hi => by
          rw [Array.getD_eq_getD_getElem?, Array.getElem?_replicate] at hi
          split at hi <;> simp at hi), Nat.le_refl _, hbase, fun _ => ⟨hbase.trans h3.drew, fun _ _ => rfl⟩⟩
      cases n <;> simp only [vc] at h <;> try (cases h; done)
      case draw t =>
        split at h
        · rename_i hok
          obtain ⟨s', w', h1, h2, h3, h4, h5, h6, h7⟩ := look_sound h hr
          exact main none t s' w' (Upd.refl _) hok h1 h2 h3 h7
        · cases h
      case drawF ids t =>
        split at h
        · rename_i hok
          have h1 := flush_sound h hr
          obtain ⟨s', h2, h3, h4, h5⟩ := escs_sound h1 (by exact hr.clean.clean) rfl
          refine main none t s' wa (Upd.refl _) hok h2 h3 (Upd.refl _) (by rw [← h4]; rfl)
        · cases h
      case drawK ids t =>
        split at h
        · rename_i hok
          have h1 := flush_sound h hr
          obtain ⟨s', h2, h3, h4, h5⟩ := escs_sound h1 (by exact hr.clean.clean) rfl
          obtain ⟨bs, h6, h2⟩ := h2
          refine main (some bs) t s' wa ⟨h6, fun _ _ => rfl⟩ hok h2 h3 (Upd.refl _) (by rw [← h4]; rfl)
        · cases h
  | seq x y ihx ihy =>
    intro n s w a wa k ex ret h hr hN
    simp only [codeW, List.mem_append] at hN ⊢
    cases n <;> simp only [vc] at h <;> try (cases h; done)
    case seq na nb =>
      refine wp_seq (wp_mono (ihx na s w a wa _ ex ret h hr (fun t ht => hN t (.inl ht))) (Post.then fun s1 w1 a1 wa1 g1 g2 _ => ihy nb s1 w1 a1 wa1 k ex ret g1 g2 (fun t ht => hN t (.inr ht))))
    case cut ks bs na nb =>
      have h := h (Ty.curs (tysOf ks) fun l w1 => vc X y nb ((s.forget (codeW x) ks bs).setAll ks l) w1 k ex ret) (by
        refine (alls_fits _ _).2 fun l hl w1 hv => ?_
        unfold appL
        rw [apps_curs _ _ l hl]
        exact hv)
      refine wp_seq (wp_mono (ihx na s w a wa _ ex ret h hr (fun t ht => hN t (.inl ht))) (Post.then fun s1 w1 a1 wa1 g1 g2 g3 => ?_))
      have g1 := flush_sound g1 g2
      obtain ⟨k1, g1⟩ := same_boxes g1
      obtain ⟨k2, g1⟩ := same_nums g1
      unfold appJ at g1
      split at g1
      · rename_i l hl
        split at g1
        · rename_i F hF
          have hfit := apps_fits _ _ _ _ hF
          rw [apps_curs _ _ l hfit] at hF
          obtain rfl := Option.some.inj hF
          exact ihy nb _ _ a1 wa1 k ex ret g1 (hr.forget g2.clean g3 k1 k2 hl hfit) (fun t ht => hN t (.inr ht))
        · cases g1
      · cases g1
  | cond c x y ihx ihy =>
    intro n s w a wa k ex ret h hr hN
    simp only [codeW, List.mem_append] at hN ⊢
    cases n <;> simp only [vc] at h <;> try (cases h; done)
    case cond na nb =>
      have mono1 : ∀ e a' w', Post X N k ex ret (codeW x) a e a' w' → Post X N k ex ret (codeW x ++ codeW y) a e a' w' := fun e a' w' hp => hp.mono (fun _ hf => hf.mono (by simp; intro t ht; exact .inl ht)) (fun _ _ h => h) (fun _ _ _ h => h) (fun _ _ h => h)
      have mono2 : ∀ e a' w', Post X N k ex ret (codeW y) a e a' w' → Post X N k ex ret (codeW x ++ codeW y) a e a' w' := fun e a' w' hp => hp.mono (fun _ hf => hf.mono (by simp; intro t ht; exact .inr ht)) (fun _ _ h => h) (fun _ _ _ h => h) (fun _ _ h => h)
      split at h
      · rename_i t
        split at h
        · rename_i v hv
          have hev : a.eval (.tmp t) = .bool v := by
            have := hr.ev (.tmp t) _ hv
            simpa only [RelV, SV.enc] using this
          refine wp_cond_split hev (fun e => ?_) (fun e => ?_)
          · subst e
            exact wp_mono (ihx na _ w a wa k ex ret h (hr.known hv) (fun t ht => hN t (.inl ht))) mono1
          · subst e
            exact wp_mono (ihy nb _ w a wa k ex ret h (hr.known hv) (fun t ht => hN t (.inr ht))) mono2
        · cases h
      · rename_i v
        refine wp_cond_split (t := v) rfl (fun e => ?_) (fun e => ?_)
        · subst e
          exact wp_mono (ihx na _ w a wa k ex ret h hr (fun t ht => hN t (.inl ht))) mono1
        · subst e
          exact wp_mono (ihy nb _ w a wa k ex ret h hr (fun t ht => hN t (.inr ht))) mono2
      · cases h
  | block id x ihx =>
    intro n s w a wa k ex ret h hr hN
    simp only [codeW] at hN ⊢
    cases n <;> simp only [vc] at h <;> try (cases h; done)
    rename_i nx
    refine wp_block (wp_mono (ihx nx s w a wa _ _ ret h hr hN) ?_)
    intro e a' w' hp
    cases e <;> simp only [Post, Exit.inBlock] at hp ⊢
    case normal => exact hp
    case ret => exact hp
    case exit i =>
      obtain ⟨⟨s1, w1, h1, h2⟩, h3⟩ := hp
      by_cases hid : i = id
      · rw [if_pos hid]
        rw [nbeq.2 hid] at h1
        exact ⟨⟨s1, w1, h1, h2⟩, h3⟩
      · rw [if_neg hid]
        rw [nbeq_false.2 hid] at h1
        exact ⟨⟨s1, w1, h1, h2⟩, h3⟩
  | loop x ihx =>
    intro n s w a wa k ex ret h hr hN
    simp only [codeW] at hN ⊢
    have main : ∀ (ks : List (Key × Ty)) (bs : List Nat) (nx : Ann) (s : St) (w : World), loopVC ks bs (codeW x) (fun s w kk => vc X x nx s w kk ex ret) s w → Rel X N s w a wa → (Code.loop x).wp X.P (Post X N k ex ret (codeW x) a) a wa := by
      intro ks bs nx s w h hr
      obtain ⟨I, M, h0, hrd⟩ := h
      have h0 := flush_sound h0 hr
      -- what holds at the head
      let InvL : List SV → Act → World → Prop := fun l a' wa' => fitsL (tysOf ks) l ∧ appL ks I l wa' ∧ Rel X N ((s.forget (codeW x) ks bs).setAll ks l) wa' a' wa'
      let S : Act → World → Nat → Prop := fun a' wa' n => ∃ l, InvL l a' wa' ∧ meas ks M l wa' = n
      let Inv : Act → World → Prop := fun a' wa' => (∃ n, S a' wa' n) ∧ Fr (codeW x) a a'
      have μ : ∃ μ : Act → World → Nat, ∀ a' wa', (∃ n, S a' wa' n) → S a' wa' (μ a' wa') ∧ ∀ m, S a' wa' m → μ a' wa' ≤ m := by
        refine ⟨fun a' wa' => open Classical in if h : ∃ n, S a' wa' n then Classical.choose (least h) else 0, fun a' wa' h => ?_⟩
        simp only [dif_pos h]
        exact Classical.choose_spec (least h)
      obtain ⟨μ, hμ⟩ := μ
      have enter : ∀ {s1 : St} {w1 : World} {a1 : Act} {wa1 : World}, appJ ks I s1 wa1 → Rel X N s1 wa1 a1 wa1 → Fr (codeW x) a a1 → (∀ i ∈ bs, s1.bx i = s.bx i) → (∀ n t, (Key.b n, t) ∈ ks → boxBT (s1.bx n) = boxBT (s.bx n)) →
          ∃ l, s1.get ks = some l ∧ InvL l a1 wa1 := by
        intro s1 w1 a1 wa1 g1 g2 g3 k1 k2
        unfold appJ at g1
        split at g1
        · rename_i l hl
          split at g1
          · rename_i F hF
            have hfit := apps_fits _ _ _ _ hF
            exact ⟨l, hl, hfit, by unfold appL; rw [hF]; exact g1, hr.forget g2 g3 k1 k2 hl hfit⟩
          · cases g1
        · cases g1
      refine wp_loop Inv μ ?_ ?_
      · obtain ⟨l, _, hl⟩ := enter (w1 := w) h0 hr.clean (Fr.refl _ _) (fun _ _ => rfl) (fun _ _ _ => rfl)
        exact ⟨⟨_, l, hl, rfl⟩, Fr.refl _ _⟩
      · rintro a1 wa1 ⟨hS, hfr⟩
        obtain ⟨⟨l, ⟨hfit, hI, hrel⟩, hm⟩, _⟩ := hμ a1 wa1 hS
        have hv := (alls_fits _ _).1 hrd l hfit wa1 hI
        refine wp_mono (ihx nx _ wa1 a1 wa1 _ ex ret hv hrel hN) ?_
        intro e a2 wa2 hp
        cases e <;> simp only [Post, Exit.then] at hp ⊢
        case normal =>
          obtain ⟨⟨s2, w2, g1, g2⟩, g3⟩ := hp
          have g1 := flush_sound g1 g2
          obtain ⟨k1, g1⟩ := same_boxes g1
          obtain ⟨k2, g1⟩ := same_nums g1
          have hfr2 : Fr (codeW x) a a2 := (hfr.trans g3).mono (by simp)
          obtain ⟨l2, hl2, hinv⟩ := enter (w1 := w2) g1.1 g2.clean hfr2 k1 k2
          refine ⟨⟨⟨_, l2, hinv, rfl⟩, hfr2⟩, ?_⟩
          have hle := (hμ a2 wa2 ⟨_, l2, hinv, rfl⟩).2 _ ⟨l2, hinv, rfl⟩
          have hlt : meas ks M l2 wa2 < meas ks M l wa1 := by
            have hM := g1.2
            unfold appM at hM
            rw [hl2] at hM
            simp only at hM
            split at hM
            · rename_i F hF
              unfold meas
              rw [hF]
              exact hM
            · cases hM
          rw [hm] at hlt
          exact Nat.lt_of_le_of_lt hle hlt
        case exit i => exact ⟨hp.1, (hfr.trans hp.2).mono (by simp)⟩
        case ret => exact hp
    cases n <;> simp only [vc] at h <;> try (cases h; done)
    case loop ks bs nx => exact main ks bs nx s w h hr
    case loopF ids ks bs nx =>
      have h1 := flush_sound h hr
      obtain ⟨s', h2, h3, _, _⟩ := escs_sound h1 (by exact hr.clean.clean) rfl
      exact main ks bs nx s' wa h2 h3
  | scope x ihx =>
    intro n s w a wa k ex ret h hr hN
    simp only [codeW] at hN ⊢
    simp only [vc] at h
    refine wp_scope_straight (wp_mono (ihx n s w a wa k ex ret h hr hN) ?_)
    intro e a' w' hp
    cases e <;> first | exact hp | exact hp.elim
  | label l =>
    intro n s w a wa k ex ret h hr hN
    simp only [vc] at h
    exact wp_label ⟨⟨s, w, h, hr⟩, Fr.refl _ _⟩
  | exit id =>
    intro n s w a wa k ex ret h hr hN
    simp only [vc] at h
    exact wp_exit ⟨⟨s, w, h, hr⟩, Fr.refl _ _⟩
  | ret =>
    intro n s w a wa k ex ret h hr hN
    simp only [vc] at h
    exact wp_ret ⟨s, w, h, hr⟩
  | _ => intro n s w a wa k ex ret h; simp only [vc] at h
end
end Go.Vc
end

section
namespace Go.Vc
open Go.RowKit (Below)
set_option linter.unusedSimpArgs false
set_option linter.unusedVariables false
set_option autoImplicit false

/-- one result of a call -/
def resOne (tmps : Array Value) : ResultVar → Sem Value
  | .tmp t => pure (tmps.getD t undef)
  | .cell a t => do loadVar t (← asAddr (tmps.getD a undef))

section
variable {X : Tab} (ok : TabOK X) {N : Nat}

include ok in
theorem resSV_run {s : St} {w : World} {a : Act} {wa : World} (hr : Rel X N s w a wa) : ∀ {rs : List ResultVar} {l : List SV}, resSV X s rs = some l → allPlain l = true →
    (rs.mapM (resOne a.tmps)).run X.P wa = .ok (SV.encL l) wa
  | [], l, h, _ => by
    simp only [resSV, Option.some.injEq] at h
    subst h
    simp [SV.encL]
  | .tmp t :: r, l, h, hp => by
    simp only [resSV] at h
    split at h
    · rename_i x l' h1 h2
      obtain rfl : x :: l' = l := by simpa using h
      simp only [allPlain, Bool.and_eq_true] at hp
      have ih := resSV_run hr h2 hp.2
      have hx := (relv_plain hp.1).1 (hr.env t x h1)
      simp only [List.mapM_cons, Sem.run_bind, resOne, Sem.run_pure, Result.andThen_ok, ih, hx, SV.encL]
    · cases h
  | .cell b t :: r, l, h, hp => by
    simp only [resSV] at h
    split at h
    · rename_i id off p l' h1 h2
      split at h
      · rename_i hli
        split at h
        · rename_i bb bt c hb
          split at h
          · rename_i x hx
            obtain rfl : x :: l' = l := by simpa using h
            simp only [allPlain, Bool.and_eq_true] at hp
            have ih := resSV_run hr h2 hp.2
            have hv := hr.env b _ h1
            obtain ⟨b2, bt2, c2, g1, g2, g3⟩ := lIs_path hv hli
            rw [hb] at g1
            simp at g1
            obtain ⟨rfl, rfl, rfl⟩ := g1
            obtain ⟨_, _, k3⟩ := hr.bx id bb bt c hb
            have hD : isData (X.T t) = true := by
              obtain ⟨y, hy, hys, _⟩ := path_get k3 g3
              cases hT : X.T t <;> rw [hT] at hys <;> first | rfl | (cases y <;> simp [SV.shape] at hys)
            obtain ⟨z, k4, rfl, k6⟩ := box_load (F := fun z => z = x) (wa := wa) ok (fun b' t' c' hb' => (hr.bx _ b' t' c' hb').2) hv hli hD (by rw [hb]; exact ifSome_iff.2 ⟨x, hx, rfl⟩)
            rw [g2] at k6
            have k7 : (loadVar t ⟨bb, off, none⟩).run X.P wa = .ok z.enc wa := by
              simpa [Instr.loadAt, Instr.sureAddr] using k6
            simp only [List.mapM_cons, Sem.run_bind, resOne, g2, asAddr, Sem.run_pure, Result.andThen_ok, k7, ih, SV.encL]
          · cases h
        · cases h
      · cases h
    · cases h

theorem encL_length (l : List SV) : (SV.encL l).length = l.length := by rw [encL_eq]; simp

include ok in
theorem results_run {s : St} {w : World} {a : Act} {wa : World} (hr : Rel X N s w a wa) {fn : Func} {l : List SV} (h : resSV X s fn.results.toList = some l) (hp : allPlain l = true) :
    (results fn a.tmps).run X.P wa = .ok (oneOf l).enc wa := by
  have h1 := resSV_run ok hr h hp
  have h2 : (fn.results.mapM (resOne a.tmps)).run X.P wa = .ok (SV.encL l).toArray wa := by
    rw [Array.mapM_eq_mapM_toList, ← bind_pure_comp, Sem.run_bind, h1]
    simp
  have h3 : results fn a.tmps = (do let vs ← fn.results.mapM (resOne a.tmps); pure (if h : vs.size = 1 then vs[0] else .tuple vs)) := by
    unfold results
    congr 1
  rw [h3, Sem.run_bind, h2]
  simp only [Result.andThen_ok, Sem.run_pure]
  congr 1
  match l with
  | [] => simp [oneOf, SV.enc, SV.encL]
  | [x] => simp [oneOf, SV.encL]
  | x :: y :: r => simp [oneOf, SV.enc, SV.encL]

theorem argsEnv_get : ∀ (l : List SV) (i u : Nat) (v : SV), argsEnv l i u = some v → i ≤ u ∧ l[u - i]? = some v
  | [], i, u, v, h => by simp [argsEnv] at h
  | x :: r, i, u, v, h => by
    simp only [argsEnv] at h
    split at h
    · rename_i e
      have := nbeq.1 e
      subst this
      simp at h
      simp [h]
    · rename_i e
      have hne := nbeq_false.1 e
      obtain ⟨h1, h2⟩ := argsEnv_get r (i + 1) u v h
      refine ⟨by omega, ?_⟩
      rw [show u - i = (u - (i + 1)) + 1 by omega]
      simpa using h2

theorem allPlain_mem : ∀ {l : List SV}, allPlain l = true → ∀ x ∈ l, plain x = true
  | [], _, x, h => by cases h
  | y :: r, hp, x, h => by
    simp only [allPlain, Bool.and_eq_true] at hp
    rcases List.mem_cons.1 h with rfl | h
    · exact hp.1
    · exact allPlain_mem hp.2 x h

/-- the temporaries that the code writes are the function's -/
def writesOK (fn : Func) : Bool := match fn.body with | some c => (codeW c).all fun t => Nat.blt t fn.ntmps | none => false

/-- the beginning of a call -/
theorem start_rel (hD : X.D = []) {args : List SV} (hp : allPlain args = true) (w : World) (n : Nat) :
    Rel X (((SV.encL args).toArray ++ Array.replicate n undef).size) (start args) w { tmps := (SV.encL args).toArray ++ Array.replicate n undef, defers := [] } w where
  defers := hD.symm
  size := rfl
  env := fun t v hv => by
    simp only [start] at hv
    obtain ⟨_, hg⟩ := argsEnv_get args 0 t v hv
    simp only [Nat.sub_zero] at hg
    have hpl := allPlain_mem hp v (List.mem_of_getElem? hg)
    refine (relv_plain hpl).2 ?_
    have hlt : t < args.length := (List.getElem?_eq_some_iff.1 hg).1
    simp only [Array.getD_eq_getD_getElem?]
    rw [Array.getElem?_append_left (by simp [encL_length]; exact hlt)]
    simp [encL_eq, hg]
  bx := fun i b t c hb => by simp [start] at hb
  sep := fun i j b t c b' t' c' hb => by simp [start] at hb
  lp := fun u id off p hu => by
    simp only [start] at hu
    obtain ⟨_, hg⟩ := argsEnv_get args 0 u _ hu
    have hpl := allPlain_mem hp _ (List.mem_of_getElem? hg)
    simp [plain] at hpl
  nb0 := Nat.le_refl _
  newIn := fun i b t c hb => by simp [start] at hb
  modIn := fun i b t c hb => by simp [start] at hb
  idlt := by simp [start]
  upd := Upd.refl w
  cln := fun _ => rfl

include ok in
/-- the end of a call -/
theorem fin_run {N : Nat} {fn : Func} {R : SV → World → Prop} {s : St} {w1 : World} {a1 : Act} {wa1 : World} (hh : finVC X fn R s w1) (hr1 : Rel X N s w1 a1 wa1) :
    ∃ v, (results fn a1.tmps).run X.P wa1 = .ok v wa1 ∧ (∃ r, (Ending.returned v) = .returned r.enc ∧ R r wa1) := by
  unfold finVC at hh
  split at hh
  · obtain ⟨s', w', g1, g2, _⟩ := esc_sound hh hr1
    have g3 := flush_sound g1 g2
    split at g3
    · rename_i l hl
      split at g3
      · rename_i hpl
        exact ⟨_, results_run ok g2.clean hl hpl, _, rfl, g3⟩
      · cases g3
    · cases g3
  · cases hh

include ok in
theorem fnVC_sound {f : Nat} {fn : Func} {n : Ann} {args : List SV} {w : World} {R : SV → World → Prop} (h : fnVC X fn n args w R) (hf : X.P.funcs[f]? = some fn)
    (hW : writesOK fn = true) (hp : allPlain args = true) (hD : X.D = []) : Ret X.P f args w R := by
  unfold fnVC at h
  unfold writesOK at hW
  cases hb : fn.body with
  | none => rw [hb] at hW; cases hW
  | some c =>
    rw [hb] at h hW
    simp only at h hW
    unfold Ret
    refine calls_of_wp hf hb ?_
    have hrel := start_rel hD hp w (fn.ntmps - (SV.encL args).toArray.size)
    have hN : ∀ t ∈ codeW c, t < ((SV.encL args).toArray ++ Array.replicate (fn.ntmps - (SV.encL args).toArray.size) undef).size := fun t ht => by
      have := List.all_eq_true.1 hW t ht
      simp at this
      simp [encL_length]
      omega
    have key := vc_sound ok c n (start args) w _ w _ _ _ h hrel hN
    refine wp_mono key ?_
    intro e a1 wa1 hpost
    cases e <;> simp only [Post, bodyPost] at hpost ⊢
    case normal =>
      obtain ⟨⟨s1, w1, h1, h2⟩, _⟩ := hpost
      exact ⟨h2.defers.trans hD, fin_run ok h1 h2⟩
    case ret =>
      obtain ⟨s1, w1, h1, h2⟩ := hpost
      exact ⟨h2.defers.trans hD, fin_run ok h1 h2⟩
    case exit i => exact hpost.1.elim fun s1 h => h.elim fun w1 h => h.1

include ok in
theorem resVC_run {s : St} {w : World} {a : Act} {wa : World} (hr : Rel X N s w a wa) : ∀ {rs : List ResultVar} {F : List SV → Prop}, resVC X s wa rs F →
    ∃ l, F l ∧ (allPlain l = true → (rs.mapM (resOne a.tmps)).run X.P wa = .ok (SV.encL l) wa)
  | [], F, h => ⟨[], h, fun _ => by simp [SV.encL]⟩
  | .tmp t :: r, F, h => by
    simp only [resVC] at h
    obtain ⟨x, h1, h2⟩ := ifSome_iff.1 h
    obtain ⟨l, g1, g2⟩ := resVC_run hr h2
    refine ⟨x :: l, g1, fun hp => ?_⟩
    simp only [allPlain, Bool.and_eq_true] at hp
    have hx := (relv_plain hp.1).1 (hr.env t x h1)
    simp only [List.mapM_cons, Sem.run_bind, resOne, Sem.run_pure, Result.andThen_ok, g2 hp.2, hx, SV.encL]
  | .cell b t :: r, F, h => by
    simp only [resVC] at h
    split at h
    · rename_i p hb
      obtain ⟨ad, rfl, h⟩ := deref_iff.1 h
      obtain ⟨x, k1, k2, k3⟩ := mem_load (wa := wa) ok h (loadVC_data h) (fun _ _ h => h)
      obtain ⟨l, g1, g2⟩ := resVC_run hr k2
      refine ⟨x :: l, g1, fun hp => ?_⟩
      simp only [allPlain, Bool.and_eq_true] at hp
      have hv := (relv_plain (x := .ptr (some ad)) rfl).1 (hr.env b _ hb)
      simp only [SV.enc] at hv
      have k4 : (loadVar t ad).run X.P wa = .ok x.enc wa := by
        simpa [Instr.loadAt, Instr.sureAddr] using k3
      simp only [List.mapM_cons, Sem.run_bind, resOne, hv, asAddr, Sem.run_pure, Result.andThen_ok, k4, g2 hp.2, SV.encL]
    · cases h
include ok in
theorem finD_run {N : Nat} {fn : Func} {R : SV → World → Prop} {s : St} {w1 : World} {a1 : Act} {wa1 : World} (hh : finVCD X fn R s w1) (hr1 : Rel X N s w1 a1 wa1) :
    ∃ v, (results fn a1.tmps).run X.P wa1 = .ok v wa1 ∧ (∃ r, (Ending.returned v) = .returned r.enc ∧ R r wa1) := by
  unfold finVCD at hh
  have g := flush_sound hh hr1
  obtain ⟨l, g1, g2⟩ := resVC_run ok hr1.clean g
  split at g1
  · rename_i hp
    have h1 := g2 hp
    have h2 : (fn.results.mapM (resOne a1.tmps)).run X.P wa1 = .ok (SV.encL l).toArray wa1 := by
      rw [Array.mapM_eq_mapM_toList, ← bind_pure_comp, Sem.run_bind, h1]
      simp
    have h3 : results fn a1.tmps = (do let vs ← fn.results.mapM (resOne a1.tmps); pure (if h : vs.size = 1 then vs[0] else .tuple vs)) := by
      unfold results
      congr 1
    refine ⟨(oneOf l).enc, ?_, _, rfl, g1⟩
    rw [h3, Sem.run_bind, h2]
    simp only [Result.andThen_ok, Sem.run_pure]
    congr 1
    match l with
    | [] => simp [oneOf, SV.enc, SV.encL]
    | [x] => simp [oneOf, SV.encL]
    | x :: y :: r => simp [oneOf, SV.enc, SV.encL]
  · cases g1

/-! ### one deferred call -/
theorem relv_D {D : List Deferred} {s : St} {v : Value} {x : SV} : RelV { X with D := D } s v x ↔ RelV X s v x := by cases x <;> exact Iff.rfl
theorem Rel.withD {N : Nat} {s : St} {w : World} {a : Act} {wa : World} (h : Rel X N s w a wa) (D : List Deferred) : Rel { X with D := D } N s w { a with defers := D } wa where
  defers := rfl
  size := h.size
  env := fun t v hv => relv_D.2 (h.env t v hv)
  bx := h.bx
  sep := h.sep
  lp := h.lp
  nb0 := h.nb0
  newIn := h.newIn
  modIn := h.modIn
  idlt := h.idlt
  upd := h.upd
  cln := h.cln
theorem Rel.offD {N : Nat} {D : List Deferred} {s : St} {w : World} {a : Act} {wa : World} (hD : X.D = []) (h : Rel { X with D := D } N s w a wa) : Rel X N s w { a with defers := [] } wa where
  defers := hD.symm
  size := h.size
  env := fun t v hv => relv_D.1 (h.env t v hv)
  bx := h.bx
  sep := h.sep
  lp := h.lp
  nb0 := h.nb0
  newIn := h.newIn
  modIn := h.modIn
  idlt := h.idlt
  upd := h.upd
  cln := h.cln
theorem fieldsOK_D {D : List Deferred} : ∀ {fs : List Field} {ts : List Ty} {off : Nat}, fieldsOK X fs ts off → fieldsOK { X with D := D } fs ts off
  | [], [], _, h => h
  | _ :: _, _ :: _, _, h => ⟨h.1, h.2.1, h.2.2.1, fieldsOK_D h.2.2.2⟩
  | [], _ :: _, _, h => h
  | _ :: _, [], _, h => h
theorem tyOK_D {D : List Deferred} {t : Nat} {T : Ty} (h : tyOK X t T) : tyOK { X with D := D } t T := by
  cases T with
  | struct b ts =>
    cases b with
    | false =>
      obtain ⟨fs, h1, h2, h3⟩ := h
      exact ⟨fs, h1, fieldsOK_D h2, h3⟩
    | true => exact h
  | _ => exact h
include ok in
theorem tabOK_D (D : List Deferred) : TabOK { X with D := D } := ⟨fun t => tyOK_D (ok.ty t), ok.info, ok.eqg, ok.call, ok.mixed⟩

include ok in
theorem opsVC_sound2 {N : Nat} {Q : Exit → Act → World → Prop} {ops : Array Oper} {k : St → World → Prop} {r : List Oper} : ∀ {l : List Oper} {s : St} {w : World} {a : Act} {wa : World}, opsVC X ops.toList l s w k → Rel X N s w a wa → (∀ t ∈ opsW l, t < N) →
    (∀ s' w' a' wa', k s' w' → Rel X N s' w' a' wa' → wpList X.P ops Q r a' wa') → wpList X.P ops Q (l ++ r) a wa
  | [], s, w, a, wa, h, hr, _, hQ => hQ s w a wa h hr
  | o :: l, s, w, a, wa, h, hr, hN, hQ => by
    simp only [opsVC] at h
    have hg := guard_sound h hr
    have hd : ∀ t, o.dst = some t → t < N := fun t ht => hN t (mem_opsW (by simp) ht)
    have hl : ∀ t ∈ opsW l, t < N := fun t ht => hN t (by rw [opsW_cons]; exact List.mem_append_right _ ht)
    rw [List.cons_append]
    unfold wpList
    split
    · rename_i hw
      left
      obtain ⟨s1, hy, hr1, _⟩ := hg.1 hw
      refine Oper.wp_mono ?_ (opVC_sound ok (Q := Q) hy hr1 hd)
      rintro a' wa' ⟨s', w', h1, h2, _, _, v, rfl⟩
      exact opsVC_sound2 h1 h2 hl hQ
    · rename_i hw
      obtain ⟨s1, hn, hr1, _⟩ := hg.2 (by simpa using hw)
      exact opsVC_sound2 hn hr1 hl hQ

theorem split_last {α : Type} : ∀ {l : List α} {o : α}, lastOf l = some o → l = initOf l ++ [o]
  | [], _, h => by cases h
  | [x], o, h => by
    simp only [lastOf, Option.some.injEq] at h
    subst h; rfl
  | x :: y :: r, o, h => by
    simp only [lastOf] at h
    have := split_last (l := y :: r) h
    simp only [initOf, List.cons_append]
    exact congrArg (x :: ·) this
theorem codeW_region {id : Nat} {ops : Array Oper} {d : Bool} : codeW (.region id ops d) = opsW ops.toList := rfl

include ok in
theorem spine_sound (hD : X.D = []) {fn : Func} {R : Ending → World → Prop} {N : Nat} {fe : St → World → Prop} {fl : Nat → List SV → St → World → Prop}
    (Hfe : ∀ s w a wa, fe s w → Rel X N s w a wa → Leaves X.P fn a.tmps R a.defers .returning wa)
    (Hfl : ∀ g cs s w a wa, X.C g = true → fl g cs s w → Rel { X with D := [deferOf g cs] } N s w a wa → Leaves X.P fn a.tmps R a.defers .returning wa) :
    ∀ (c : Code) (n : Ann) (s : St) (w : World) (a : Act) (wa : World), spineVC X fe fl c n s w → Rel X N s w a wa → (∀ t ∈ codeW c, t < N) → c.wp X.P (bodyPostD X.P fn R) a wa := by
  intro c
  induction c with
  | seq x y _ ihy =>
    intro n s w a wa h hr hN
    simp only [codeW, List.mem_append] at hN
    cases n <;> simp only [spineVC] at h <;> try (cases h; done)
    rename_i na nb
    split at h
    · refine wp_seq (wp_mono (vc_sound ok x na s w a wa _ _ _ h hr (fun t ht => hN t (.inl ht))) ?_)
      intro e a1 w1 hp
      cases e <;> simp only [Post, Exit.then] at hp ⊢
      case normal =>
        obtain ⟨⟨s1, w1', g1, g2⟩, _⟩ := hp
        exact ihy nb s1 w1' a1 w1 g1 g2 (fun t ht => hN t (.inr ht))
      case exit i =>
        obtain ⟨⟨s1, w1', g1, _⟩, _⟩ := hp
        exact g1.elim
      case ret =>
        obtain ⟨s1, w1', g1, g2⟩ := hp
        exact Hfe s1 w1' a1 w1 g1 g2
    · split at h
      · rename_i id ops _ _
        split at h
        · rename_i o ho
          refine wp_seq (wp_region_list ?_)
          have hsplit : ops.toList = initOf ops.toList ++ [o] := split_last ho
          have hW : ∀ t ∈ opsW (initOf ops.toList), t < N := fun t ht => hN t (.inl (by
            rw [codeW_region, hsplit]
            have : ∀ (l m : List Oper), t ∈ opsW l → t ∈ opsW (l ++ m) := by
              intro l m
              induction l with
              | nil => intro h; cases h
              | cons x l ih => intro h; rw [List.cons_append, opsW_cons] at *; rcases List.mem_append.1 h with h | h; exact List.mem_append_left _ h; exact List.mem_append_right _ (ih h)
            exact this _ _ ht))
          rw [hsplit]
          refine opsVC_sound2 ok h hr hW ?_
          intro s1 w1 a1 wa1 hd hr1
          unfold deferVC at hd
          split at hd
          · rename_i cc hg hop
            split at hd
            · cases hd
            · rename_i hdst
              split at hd
              · rename_i f hcal hargs
                split at hd
                · rename_i g cs hf
                  split at hd
                  · rename_i hpl
                    simp only [Bool.and_eq_true] at hpl
                    have hk := flush_sound hd hr1
                    have hfv := hr1.ev f _ hf
                    simp only [RelV, SV.enc] at hfv
                    have hrun : (execOp a1.eval o).run X.P wa1 = .ok (.defer (deferOf g cs)) wa1 := by
                      have ha : cc.args = #[] := by
                        have := hargs
                        cases hc : cc.args with
                        | mk l => rw [hc] at this; simp at this; rw [this]
                      simp [execOp, hop, resolve, hcal, hfv, Deferred.ofValue, ha, deferOf]
                    unfold wpList
                    rw [if_pos (by simp [Region.wanted, hg])]
                    left
                    unfold Oper.wp
                    rw [hrun, Oper.upon_defer, hdst]
                    have hdf := hr1.defers
                    rw [hD] at hdf
                    rw [hdf]
                    have hr2 := (hr1.clean).withD [deferOf g cs]
                    have := vc_sound (tabOK_D ok [deferOf g cs]) y nb s1.clean wa1 _ wa1 _ _ _ hk hr2 (fun t ht => hN t (.inr ht))
                    unfold wpList
                    refine wp_mono this ?_
                    intro e a3 w3 hp
                    cases e <;> simp only [Post, bodyPostD] at hp ⊢
                    case normal =>
                      obtain ⟨⟨s4, w4, g1, g2⟩, _⟩ := hp
                      exact Hfl g cs s4 w4 a3 w3 hpl.1 g1 g2
                    case exit i =>
                      obtain ⟨⟨s4, w4, g1, _⟩, _⟩ := hp
                      exact g1.elim
                    case ret =>
                      obtain ⟨s4, w4, g1, g2⟩ := hp
                      exact Hfl g cs s4 w4 a3 w3 hpl.1 g1 g2
                  · cases hd
                · cases hd
              · cases hd
          · cases hd
        · cases h
      · cases h
  | _ => intro n s w a wa h; simp only [spineVC] at h

include ok in
theorem fnVCD_sound {f : Nat} {fn : Func} {n : Ann} {args : List SV} {w : World} {R : SV → World → Prop} (h : fnVCD X fn n args w R) (hf : X.P.funcs[f]? = some fn)
    (hW : writesOK fn = true) (hp : allPlain args = true) (hD : X.D = []) : Ret X.P f args w R := by
  unfold fnVCD at h
  unfold writesOK at hW
  cases hb : fn.body with
  | none => rw [hb] at hW; cases hW
  | some c =>
    rw [hb] at h hW
    simp only at h hW
    unfold Ret
    refine calls_of_wp_defers hf hb ?_
    have hrel := start_rel hD hp w (fn.ntmps - (SV.encL args).toArray.size)
    have hN : ∀ t ∈ codeW c, t < ((SV.encL args).toArray ++ Array.replicate (fn.ntmps - (SV.encL args).toArray.size) undef).size := fun t ht => by
      have := List.all_eq_true.1 hW t ht
      simp at this
      simp [encL_length]
      omega
    refine spine_sound ok hD ?_ ?_ c n (start args) w _ w h hrel hN
    · intro s w1 a wa h1 h2
      rw [h2.defers, hD]
      exact fin_run ok h1 h2
    · intro g cs s w1 a wa hC h1 h2
      rw [h2.defers]
      have h3 := flush_sound h1 h2
      obtain ⟨fn', hfn, hbody, hname⟩ := ok.call g hC
      have hname' : ¬ (fn'.name = "runtime.NumGoroutine") := by simpa using hname
      have hb' : ¬ fn'.body = none := by intro e; rw [e] at hbody; cases hbody
      refine ⟨by simp, .func g, (SV.encL cs).toArray, g, (SV.encL cs).toArray, rfl, ?_, ?_⟩
      · simp [deferOf, invoke, callFunc, run_program, hfn, hname', hb']
      · intro c0 cs0 hm
        obtain ⟨e, u', w', fr, ⟨⟨v, rfl⟩, rfl, hQ⟩, hrest⟩ := h3 c0 cs0 hm
        refine ⟨_, _, w', fr, ?_, hrest⟩
        rw [live_clean] at hQ
        obtain ⟨hK, hkeep⟩ := keeps_live h2.clean hQ
        have hw := h2.clean.world (w2 := w') (fun i b t c hb => hkeep b (live_of hb (h2.bx i b t c hb).1))
        exact finD_run (a1 := { a with defers := [] }) ok hK (hw.offD hD)
end
end Go.Vc
end

section
namespace Go.Vc
set_option linter.unusedSimpArgs false
set_option linter.unusedVariables false
set_option autoImplicit false

/-! ### the table of types is right: what the kernel counts -/
def sameCell : Value → Value → Bool
  | .int k n, .int k' n' => ksame k k' && decide (n = n')
  | .bool true, .bool true => true
  | .bool false, .bool false => true
  | .string s, .string s' => (match s, s' with | ⟨⟨[]⟩⟩, ⟨⟨[]⟩⟩ => true | _, _ => false)
  | .pointer none, .pointer none => true
  | .slice none n c, .slice none n' c' => Nat.beq n n' && Nat.beq c c'
  | .map none, .map none => true
  | _, _ => false
def sameCells : List Value → List Value → Bool
  | [], [] => true
  | x :: r, y :: s => sameCell x y && sameCells r s
  | _, _ => false

theorem sameCell_eq {a b : Value} (h : sameCell a b = true) : a = b := by
  unfold sameCell at h
  split at h
  · simp only [Bool.and_eq_true, decide_eq_true_eq] at h
    rw [ksame_eq h.1, h.2]
  · rfl
  · rfl
  · split at h
    · rfl
    · cases h
  · rfl
  · simp only [Bool.and_eq_true] at h
    rw [nbeq.1 h.1, nbeq.1 h.2]
  · rfl
  · cases h
theorem sameCells_eq : ∀ {a b : List Value}, sameCells a b = true → a = b
  | [], [], _ => rfl
  | [], _ :: _, h => by simp [sameCells] at h
  | _ :: _, [], h => by simp [sameCells] at h
  | x :: r, y :: s, h => by
    simp only [sameCells, Bool.and_eq_true] at h
    rw [sameCell_eq h.1, sameCells_eq h.2]

def zeroOKb (t : Ty) (o : Option Value) : Bool :=
  match t.zero with
  | none => true
  | some z => match o with
    | some v => match isAggTy t with
      | true => (match v with | .agg cs => sameCells cs.toList z.cells | _ => false)
      | false => sameCells [v] z.cells
    | none => false

theorem zeroOKb_eq {t : Ty} {o : Option Value} (h : zeroOKb t o = true) : ∀ z, t.zero = some z → o = some z.enc := by
  intro z hz
  unfold zeroOKb at h
  rw [hz] at h
  cases o with
  | none => cases h
  | some v =>
    simp only at h
    have hs := zero_shape hz
    cases ha : isAggTy t with
    | true =>
      rw [ha] at h
      cases v <;> simp only at h <;> try (cases h; done)
      rename_i cs
      rw [enc_agg hs ha, ← sameCells_eq h]
    | false =>
      rw [ha] at h
      simp only at h
      have := sameCells_eq h
      rw [enc_scalar hs ha] at this
      simp at this
      rw [this]

def infoOKb (X : Tab) (t : Nat) : Bool :=
  match isData (X.T t) with
  | true => match X.P.info? t with
    | some i => Nat.beq i.size (X.T t).size && Nat.beq i.bytes (X.B t) && zeroOKb (X.T t) i.zero
    | none => false
  | false => true

def fieldsOKb (X : Tab) : List Field → List Ty → Nat → Bool
  | [], [], _ => true
  | f :: fr, t :: tr, off => Nat.beq f.offset off && (X.T f.type).same t && !(f.name == "_") && fieldsOKb X fr tr (off + t.size)
  | _, _, _ => false

def tyOKb (X : Tab) (t : Nat) : Ty → Bool
  | .int k => match X.P.underlying t with | some (.int k') => ksame k' k | _ => false
  | .bool => match X.P.underlying t with | some .bool => true | _ => false
  | .str => match X.P.underlying t with | some .string => true | _ => false
  | .ptr e => match X.P.underlying t with | some (.pointer e') => Nat.beq e' e | _ => false
  | .slice e => match X.P.underlying t with | some (.slice e') => Nat.beq e' e | _ => false
  | .map => match X.P.underlying t with | some (.map _ _) => true | _ => false
  | .arr k n => match X.P.underlying t with | some (.array n' e) => Nat.beq n' n && (X.T e).same (.int k) | _ => false
  | .struct false ts => (match X.P.underlying t with | some (.struct fs) => fieldsOKb X fs.toList ts 0 | _ => false) && !X.P.stoodInHeld t
  | .struct true ts => match X.P.underlying t with | some (.array n e) => Ty.sames ts (List.replicate n (X.T e)) && isData (X.T e) | _ => false
  | _ => true

theorem fieldsOKb_eq {X : Tab} : ∀ {fs : List Field} {ts : List Ty} {off : Nat}, fieldsOKb X fs ts off = true → fieldsOK X fs ts off
  | [], [], _, _ => trivial
  | [], _ :: _, _, h => by simp [fieldsOKb] at h
  | _ :: _, [], _, h => by simp [fieldsOKb] at h
  | f :: fr, t :: tr, off, h => by
    simp only [fieldsOKb, Bool.and_eq_true, Bool.not_eq_true'] at h
    exact ⟨nbeq.1 h.1.1.1, Ty.same_eq h.1.1.2, h.1.2, fieldsOKb_eq h.2⟩

theorem tyOKb_eq {X : Tab} {t : Nat} {T : Ty} (h : tyOKb X t T = true) : tyOK X t T := by
  unfold tyOKb at h
  unfold tyOK
  split at h
  case h_1 k =>
    split at h
    · rename_i k' e; rw [e, ksame_eq h]
    · cases h
  case h_2 => split at h <;> first | assumption | cases h
  case h_3 => split at h <;> first | assumption | cases h
  case h_4 e =>
    split at h
    · rename_i k' e; rw [e, nbeq.1 h]
    · cases h
  case h_5 e =>
    split at h
    · rename_i k' e; rw [e, nbeq.1 h]
    · cases h
  case h_6 =>
    split at h
    · rename_i k e he; exact ⟨k, e, he⟩
    · cases h
  case h_7 k n =>
    split at h
    · rename_i n' e he
      simp only [Bool.and_eq_true] at h
      refine ⟨e, ?_, Ty.same_eq h.2⟩
      rw [he, nbeq.1 h.1]
    · cases h
  case h_8 ts =>
    simp only [Bool.and_eq_true, Bool.not_eq_true'] at h
    obtain ⟨h1, h2⟩ := h
    split at h1
    · rename_i fs he
      exact ⟨fs, he, fieldsOKb_eq h1, h2⟩
    · cases h1
  case h_9 ts =>
    split at h
    · rename_i n e he
      simp only [Bool.and_eq_true] at h
      exact ⟨n, e, he, Ty.sames_eq h.1, h.2⟩
    · cases h
  case h_10 h1 h2 h3 h4 h5 h6 h7 h8 h9 =>
    cases T <;> simp_all

/-- one type -/
def oneOKb (X : Tab) (t : Nat) : Bool := tyOKb X t (X.T t) && infoOKb X t && (!(X.T t).cmp || !X.P.eqGuardType X.P.depth t)
def downAll (f : Nat → Bool) : Nat → Bool
  | 0 => true
  | n + 1 => f n && downAll f n
def callOKb (X : Tab) (f : Nat) : Bool :=
  match X.C f with
  | true => match X.P.funcs[f]? with
    | some fn => !fn.body.isNone && !(fn.name == "runtime.NumGoroutine")
    | none => false
  | false => true

theorem downAll_spec {f : Nat → Bool} : ∀ {n : Nat}, downAll f n = true → ∀ i, i < n → f i = true
  | 0, _, i, hi => by omega
  | n + 1, h, i, hi => by
    simp only [downAll, Bool.and_eq_true] at h
    by_cases e : i = n
    · subst e; exact h.1
    · exact downAll_spec h.2 i (by omega)

def nthD {α : Type} (d : α) : List α → Nat → α
  | [], _ => d
  | x :: _, 0 => x
  | _ :: r, n + 1 => nthD d r n
theorem nthD_out {α : Type} {d : α} : ∀ {l : List α} {n : Nat}, l.length ≤ n → nthD d l n = d
  | [], n, _ => by cases n <;> rfl
  | x :: r, 0, h => by simp at h
  | x :: r, n + 1, h => by simpa [nthD] using nthD_out (l := r) (by simpa using h)

/-- the table: types, their bytes, the functions that may be called -/
def tabOf (P : Program) (ts : List Ty) (bs : List Nat) (cs : List Bool) : Tab := { P, T := nthD .other ts, B := nthD 0 bs, C := nthD false cs, D := [] }

def tabOKb (P : Program) (ts : List Ty) (bs : List Nat) (cs : List Bool) : Bool :=
  downAll (oneOKb (tabOf P ts bs cs)) ts.length && downAll (callOKb (tabOf P ts bs cs)) cs.length && P.follows .mixedOrders

theorem tabOK_of {P : Program} {ts : List Ty} {bs : List Nat} {cs : List Bool} (h : tabOKb P ts bs cs = true) : TabOK (tabOf P ts bs cs) := by
  simp only [tabOKb, Bool.and_eq_true] at h
  obtain ⟨⟨h1, h2⟩, h3⟩ := h
  have one : ∀ t, t < ts.length → oneOKb (tabOf P ts bs cs) t = true := downAll_spec h1
  have out : ∀ t, ¬ t < ts.length → (tabOf P ts bs cs).T t = .other := fun t ht => nthD_out (by omega)
  have spl : ∀ t, t < ts.length → tyOKb (tabOf P ts bs cs) t ((tabOf P ts bs cs).T t) = true ∧ infoOKb (tabOf P ts bs cs) t = true ∧ (((tabOf P ts bs cs).T t).cmp = false ∨ P.eqGuardType P.depth t = false) := by
    intro t ht
    have := one t ht
    simp only [oneOKb, Bool.and_eq_true, Bool.or_eq_true, Bool.not_eq_true'] at this
    exact ⟨this.1.1, this.1.2, this.2⟩
  exact {
    ty := fun t => by
      by_cases ht : t < ts.length
      · exact tyOKb_eq (spl t ht).1
      · rw [out t ht]; trivial
    info := fun t hd => by
      by_cases ht : t < ts.length
      · have := (spl t ht).2.1
        unfold infoOKb at this
        rw [hd] at this
        simp only at this
        split at this
        · rename_i i hi
          simp only [Bool.and_eq_true] at this
          exact ⟨i, hi, nbeq.1 this.1.1, nbeq.1 this.1.2, zeroOKb_eq this.2⟩
        · cases this
      · rw [out t ht] at hd; cases hd
    eqg := fun t hc => by
      by_cases ht : t < ts.length
      · rcases (spl t ht).2.2 with h | h
        · rw [h] at hc; cases hc
        · exact h
      · rw [out t ht] at hc; cases hc
    call := fun f hf => by
      by_cases hlt : f < cs.length
      · have := downAll_spec h2 f hlt
        unfold callOKb at this
        rw [hf] at this
        simp only at this
        split at this
        · rename_i fn hfn
          simp only [Bool.and_eq_true, Bool.not_eq_true'] at this
          exact ⟨fn, hfn, this.1, this.2⟩
        · cases this
      · have : (tabOf P ts bs cs).C f = false := nthD_out (by omega)
        rw [this] at hf; cases hf
    mixed := h3 }
end Go.Vc
end

section
open Go Go.Vc Go.Proofs
namespace Go.Vc.S6

def tTs : List Ty := [(.tuple []),
  .other,
  (.int .i64),
  (.int .i64),
  .bool,
  (.int .u8),
  (.int .u8),
  (.struct false [(.int .i64), (.int .i64), .bool, (.int .u8)]),
  (.struct false [(.int .i64), (.int .i64), .bool, (.int .u8)]),
  .str,
  .str,
  .str,
  (.int .u64),
  .other,
  .other,
  (.ptr 134),
  (.ptr 137),
  (.ptr 147),
  .other,
  .other,
  .other,
  (.int .i32),
  (.slice 5),
  .other,
  .other,
  (.arr .u8 16),
  (.struct false [(.int .i64), (.arr .u8 16)]),
  (.struct false [(.int .i64), (.arr .u8 16)]),
  (.slice 37),
  (.struct false [(.int .i64), (.int .i64), .bool, .bool, (.int .i64), (.int .i64), (.int .i64), (.struct false [(.int .i64), (.arr .u8 16)]), (.struct false [(.int .i64), (.arr .u8 16)]), (.slice 37), (.slice 5)]),
  (.struct false [(.int .i64), (.int .i64), .bool, .bool, (.int .i64), (.int .i64), (.int .i64), (.struct false [(.int .i64), (.arr .u8 16)]), (.struct false [(.int .i64), (.arr .u8 16)]), (.slice 37), (.slice 5)]),
  (.int .i64),
  (.tuple [(.struct false [(.int .i64), (.int .i64), .bool, .bool, (.int .i64), (.int .i64), (.int .i64), (.struct false [(.int .i64), (.arr .u8 16)]), (.struct false [(.int .i64), (.arr .u8 16)]), (.slice 37), (.slice 5)]), (.int .i64)]),
  .other,
  .other,
  .other,
  (.struct false [(.int .i64), (.slice 5)]),
  (.struct false [(.int .i64), (.slice 5)]),
  .other,
  (.tuple [(.slice 5), (.int .i64)]),
  .other,
  .other,
  .other,
  .other,
  (.slice 22),
  .other,
  .other,
  .other,
  .other,
  (.slice 70),
  (.ptr 52),
  (.struct false [(.slice 5), (.int .i64)]),
  (.struct false [(.slice 5), (.int .i64)]),
  (.ptr 56),
  (.slice 50),
  (.struct false [(.slice 37), (.int .i64), (.slice 50)]),
  (.struct false [(.slice 37), (.int .i64), (.slice 50)]),
  (.ptr 59),
  (.struct false [(.slice 22), (.slice 22)]),
  (.struct false [(.slice 22), (.slice 22)]),
  .other,
  .other,
  (.tuple [(.slice 5), (.int .i64)]),
  .other,
  .other,
  .other,
  .other,
  .other,
  .other,
  .other,
  (.arr .i64 2),
  .other,
  .other,
  .other,
  (.slice 114),
  .other,
  .other,
  .other,
  (.ptr 81),
  (.slice 28),
  (.struct false [(.slice 28), (.slice 28)]),
  (.struct false [(.slice 28), (.slice 28)]),
  (.tuple [(.struct false [(.int .i64), (.int .i64), .bool, .bool, (.int .i64), (.int .i64), (.int .i64), (.struct false [(.int .i64), (.arr .u8 16)]), (.struct false [(.int .i64), (.arr .u8 16)]), (.slice 37), (.slice 5)]), (.int .i64)]),
  .other,
  (.tuple [(.slice 37), (.int .i64)]),
  .other,
  (.tuple [(.slice 37), (.int .i64)]),
  .other,
  .other,
  .other,
  .other,
  .other,
  .other,
  (.tuple [(.struct false [(.int .i64), (.int .i64), .bool, .bool, (.int .i64), (.int .i64), (.int .i64), (.struct false [(.int .i64), (.arr .u8 16)]), (.struct false [(.int .i64), (.arr .u8 16)]), (.slice 37), (.slice 5)]), (.slice 5)]),
  .other,
  (.arr .i64 12),
  (.slice 3),
  (.tuple [(.slice 3), (.int .i64), (.int .i64)]),
  .other,
  .other,
  .other,
  .other,
  .other,
  .other,
  .other,
  (.int .u64),
  .other,
  .other,
  .other,
  .other,
  .other,
  .other,
  .other,
  (.struct false [(.int .i64), (.slice 5), (.struct false [(.int .i64), (.int .i64), .bool, .bool, (.int .i64), (.int .i64), (.int .i64), (.struct false [(.int .i64), (.arr .u8 16)]), (.struct false [(.int .i64), (.arr .u8 16)]), (.slice 37), (.slice 5)]), (.slice 37)]),
  (.struct false [(.int .i64), (.slice 5), (.struct false [(.int .i64), (.int .i64), .bool, .bool, (.int .i64), (.int .i64), (.int .i64), (.struct false [(.int .i64), (.arr .u8 16)]), (.struct false [(.int .i64), (.arr .u8 16)]), (.slice 37), (.slice 5)]), (.slice 37)]),
  .other,
  .other,
  (.tuple [(.int .i64), (.int .i64)]),
  .other,
  .other,
  .other,
  .other,
  .other,
  .other,
  .other,
  .other,
  (.tuple [(.slice 37), (.slice 22)]),
  .other,
  .other,
  (.arr .i64 3),
  (.struct false []),
  (.struct false []),
  .other,
  .other,
  .other,
  (.struct true []),
  .other,
  .other,
  .other,
  (.int .u32),
  (.int .u8),
  (.int .u8),
  .other,
  (.ptr 5),
  (.int .i32),
  (.int .i32),
  .other,
  .other,
  .other]
def tBs : List Nat := [0, 8, 8, 8, 1, 1, 1, 24, 24, 16, 16, 16, 8, 24, 24, 8, 8, 8, 8, 8, 16, 4, 24, 8, 8, 16, 24, 24, 24, 144, 144, 8, 0, 8, 8, 8, 32, 32, 8, 0, 8, 8, 8, 8, 24, 8, 8, 8, 8, 24, 8, 32, 32, 8, 24, 56, 56, 8, 48, 48, 8, 8, 0, 8, 8, 8, 8, 8, 8, 8, 16, 8, 8, 8, 24, 8, 8, 8, 8, 24, 48, 48, 0, 8, 0, 8, 0, 8, 8, 8, 8, 8, 8, 0, 8, 96, 24, 0, 8, 8, 8, 8, 8, 8, 8, 8, 8, 8, 8, 8, 8, 8, 8, 200, 200, 8, 8, 0, 8, 8, 8, 8, 8, 8, 8, 8, 0, 8, 8, 24, 0, 0, 8, 40, 40, 0, 0, 0, 8, 4, 1, 1, 8, 8, 4, 4, 48, 48, 8]
def tCs : List Bool := [false, false, true, true, true, true, true, true, true, true, true, true, true, true, true, true, true, true, true, true, true, true, true, true, true, true, true, true, true, true, true, true, true, true, true, true, true, true, true, true, true, true, true, true, true, true, true, true, true, true, true, true, true, true, true, true, true, true, true, true, true, true, true, true, true, true, true, true, true, true, true, true, true, true, true, true, true, true, true, true, true, true, true, true, true, true, true, true, true, true, true, true, true, true, true, true, false, false, false, false, false, false, false, false, false, false, false, false, false, false, false, false, false, false, false, false, false, true]
noncomputable def X : Tab := tabOf Tryd.prog tTs tBs tCs
theorem X_ok : TabOK X := tabOK_of (by kernel_rfl)

end Go.Vc.S6
end

section
open Go Go.Vc
namespace Go.Vc.S6
/-- gosem.cut.init -/
def a2 : Ann := .leaf
/-- weir/weirlaw6.Ip4Window -/
def a3 : Ann := (.seq .leaf (.seq .leaf (.seq .leaf (.seq .leaf (.seq .leaf (.cut [] [0] (.seq .leaf (.cond (.seq .leaf .leaf) .leaf)) (.seq .leaf (.cut [] [0] (.seq .leaf (.cond (.seq .leaf .leaf) .leaf)) (.seq (.seq .leaf (.block (.loop [(.t 11, (.int .i64))] [0] (.seq (.seq .leaf (.cond .leaf .leaf)) (.cut [] [0] (.block (.seq .leaf (.seq .leaf (.cond (.seq .leaf .leaf) .leaf)))) .leaf))))) (.seq (.seq .leaf (.block (.loop [(.t 13, (.int .i64))] [0] (.seq (.seq .leaf (.cond .leaf .leaf)) (.cut [] [0] (.block (.seq .leaf (.seq .leaf (.seq (.seq .leaf (.block (.loop [(.t 16, (.int .i64))] [0] (.seq (.seq .leaf (.cond .leaf .leaf)) (.seq (.block .leaf) .leaf))))) (.seq .leaf (.seq (.seq .leaf (.block (.loop [(.t 17, (.int .i64)), (.t 18, (.int .i64))] [0] (.seq (.seq .leaf (.cond .leaf .leaf)) (.cut [(.t 17, (.int .i64))] [0] (.block (.seq (.draw (.early 0 (.early 1 (.early 2 (.early 3 (.early 4 (.early 5 (.early 6 (.early 7 (.early 8 (.early 9 .done))))))))))) (.cond .leaf .leaf))) .leaf))))) (.seq (.seq .leaf (.block (.loop [(.t 19, (.int .i64))] [0] (.seq (.seq .leaf (.cond .leaf .leaf)) (.seq (.block .leaf) .leaf))))) (.seq .leaf (.cond (.seq .leaf .leaf) .leaf))))))))) .leaf))))) (.seq (.seq .leaf (.block (.loop [(.t 20, (.int .i64))] [0] (.seq (.seq .leaf (.cond .leaf .leaf)) (.seq (.block (.draw (.early 0 (.early 1 (.early 2 (.early 3 (.early 4 (.early 5 (.early 6 (.early 7 (.early 8 (.early 9 (.early 10 (.fork [(11, .done)])))))))))))))) .leaf))))) (.seq .leaf (.cut [] [0, 1] (.seq .leaf (.cond (.seq .leaf .leaf) .leaf)) (.seq (.seq .leaf (.block (.loop [(.t 23, (.int .i64))] [0, 1] (.seq (.seq .leaf (.cond .leaf .leaf)) (.seq (.block (.draw (.early 0 (.early 1 (.early 2 (.early 3 (.early 4 (.early 5 (.early 6 (.early 7 (.early 8 (.early 9 (.early 10 (.fork [(11, .done)])))))))))))))) .leaf))))) (.seq .leaf (.seq .leaf .leaf))))))))))))))))
/-- weir/weirlaw6.Ip4OneBit -/
def a4 : Ann := (.seq .leaf (.seq .leaf (.seq .leaf (.seq .leaf (.cut [] [0] (.seq .leaf (.cond (.seq .leaf .leaf) .leaf)) (.seq (.draw (.early 0 (.early 1 (.early 2 (.early 3 (.early 4 (.early 5 (.early 6 (.early 7 (.early 8 (.early 9 (.early 10 (.early 11 (.early 12 (.fork [(13, .done)]))))))))))))))) (.seq .leaf (.seq .leaf .leaf))))))))
/-- weir/weirlaw6.Ip4Own -/
def a5 : Ann := (.seq .leaf (.seq .leaf (.seq .leaf (.seq .leaf (.seq .leaf (.seq .leaf (.seq .leaf (.seq .leaf (.seq .leaf (.seq .leaf (.seq .leaf (.cut [] [0, 1] (.seq .leaf (.cond (.seq .leaf .leaf) .leaf)) (.seq .leaf (.seq .leaf (.seq .leaf (.seq .leaf (.seq .leaf .leaf)))))))))))))))))
/-- weir/weirlaw6.Ip4Lent -/
def a6 : Ann := (.seq .leaf (.seq (.seq .leaf (.cond (.seq .leaf .leaf) .leaf)) (.seq .leaf (.seq .leaf (.seq .leaf (.seq .leaf (.seq .leaf (.seq .leaf (.seq (.seq .leaf (.block (.loopF [2, 3, 4, 5] [(.t 13, (.int .i64))] [0, 1] (.cut [] [0, 1] (.seq .leaf (.cond .leaf .leaf)) (.cut [] [0, 1] (.block (.seq .leaf (.seq .leaf (.seq .leaf (.seq .leaf (.seq .leaf (.seq .leaf (.seq .leaf (.seq .leaf (.seq .leaf (.seq .leaf (.seq .leaf (.cut [] [0, 1, 6] (.seq (.draw (.early 0 (.early 2 (.fork [(1, (.fork [(3, (.early 4 (.early 5 (.early 6 (.early 8 (.fork [(7, (.early 9 (.early 10 (.early 11 (.early 12 (.early 14 (.fork [(13, (.early 15 (.early 16 (.early 17 (.early 18 (.early 19 (.fork [(20, (.early 21 (.early 22 (.early 23 (.early 24 (.early 25 (.fork [(26, (.early 27 (.early 28 .done)))])))))))])))))))])))))))]))))))]))])))) (.cond (.seq .leaf .leaf) .leaf)) (.cut [] [0, 1, 6] (.seq .leaf (.cond (.seq .leaf .leaf) .leaf)) (.seq .leaf (.seq .leaf (.seq .leaf (.seq .leaf (.seq (.seq .leaf (.cond (.seq .leaf .leaf) .leaf)) (.seq .leaf (.cond (.seq (.draw (.early 0 (.early 1 (.early 2 (.early 3 (.early 4 (.early 5 (.early 6 (.early 7 (.fork [(8, .done)])))))))))) .leaf) .leaf))))))))))))))))))))) .leaf))))) (.seq .leaf .leaf))))))))))
/-- weir/weirlaw6.Ip4Back -/
def a7 : Ann := (.seq .leaf (.seq .leaf (.seq .leaf (.seq .leaf (.cut [] [0, 1] (.seq (.draw (.early 0 (.early 1 (.early 2 (.early 3 (.early 5 (.fork [(4, (.fork [(6, (.fork [(7, (.early 8 (.early 9 .done)))]))]))]))))))) (.cond (.seq .leaf .leaf) .leaf)) (.seq (.seq .leaf (.cond (.seq .leaf .leaf) .leaf)) (.seq (.seq .leaf (.cond (.seq .leaf .leaf) .leaf)) (.seq .leaf (.seq .leaf .leaf)))))))))
/-- weir/weirlaw6.Ip4OneForm -/
def a8 : Ann := (.seq .leaf (.seq .leaf (.seq .leaf (.cut [] [0] (.seq .leaf (.cond (.seq .leaf .leaf) .leaf)) (.seq .leaf (.seq .leaf (.cut [] [0, 1] (.seq .leaf (.cond (.seq .leaf .leaf) .leaf)) (.seq .leaf .leaf))))))))
/-- weir/weirlaw6.Ip4Reads -/
def a9 : Ann := (.seq .leaf (.seq .leaf .leaf))
/-- weir/weirlaw6.Ip4Writes -/
def a10 : Ann := (.seq .leaf (.seq .leaf .leaf))
/-- weir/weirlaw6.Ip4Canons -/
def a11 : Ann := (.seq .leaf (.seq .leaf .leaf))
/-- weir/weirlaw6.Ip4Options -/
def a12 : Ann := (.seq .leaf (.seq .leaf .leaf))
/-- weir/weirlaw6.Ip4Hops -/
def a13 : Ann := (.seq .leaf (.seq .leaf .leaf))
/-- weir/weirlaw6.Ip4Plays -/
def a14 : Ann := (.seq .leaf (.seq .leaf .leaf))
/-- weir/weirlaw6.Ip4HopOnce -/
def a15 : Ann := (.seq .leaf (.seq .leaf (.seq .leaf (.seq .leaf (.seq .leaf (.seq .leaf (.seq (.seq .leaf (.cond (.seq .leaf .leaf) .leaf)) (.seq (.seq .leaf (.cond (.seq .leaf .leaf) .leaf)) (.seq (.seq .leaf (.cond (.seq .leaf .leaf) .leaf)) (.seq .leaf (.seq .leaf (.seq .leaf (.seq (.seq .leaf (.block (.loop [(.t 12, (.int .i64))] [0, 1, 2] (.seq (.seq .leaf (.cond .leaf .leaf)) (.cut [] [0, 1, 2] (.block (.seq (.draw (.early 0 (.early 1 (.early 2 (.early 3 (.early 4 (.early 5 (.early 6 (.early 7 (.early 8 (.early 9 (.early 10 (.early 11 (.early 12 (.early 13 (.early 14 (.early 15 (.early 16 (.early 17 (.early 18 (.early 19 (.early 20 .done)))))))))))))))))))))) (.cond (.seq .leaf .leaf) .leaf))) .leaf))))) (.seq .leaf .leaf))))))))))))))
/-- weir/weirlaw6.Ip4HopsOut -/
def a16 : Ann := (.seq .leaf (.seq .leaf (.seq .leaf (.cut [] [0] (.seq .leaf (.cond (.seq .leaf .leaf) .leaf)) (.seq .leaf (.cut [(.t 6, (.int .i64))] [0] (.block (.loop [(.t 6, (.int .i64))] [0] (.cut [] [0] (.seq .leaf (.cond .leaf .leaf)) (.block .leaf)))) (.seq .leaf (.cut [(.t 7, (.int .i64))] [0] (.seq .leaf (.cond .leaf .leaf)) (.seq .leaf .leaf)))))))))
/-- weir/weirlaw6.Ip4Again -/
def a17 : Ann := (.seq .leaf (.seq (.seq .leaf (.cond (.seq .leaf .leaf) .leaf)) (.seq .leaf (.seq .leaf (.seq .leaf (.seq .leaf (.seq (.seq .leaf (.block (.loopF [1] [(.t 5, (.slice 5)), (.t 9, (.int .i64))] [] (.cut [] [] (.seq .leaf (.cond .leaf .leaf)) (.cut [(.t 5, (.slice 5))] [] (.block (.seq .leaf (.seq .leaf (.cut [] [2, 3] (.seq .leaf (.cond (.seq .leaf .leaf) .leaf)) (.seq .leaf (.seq .leaf (.cut [] [2, 3] (.seq .leaf (.cond (.seq .leaf .leaf) .leaf)) (.seq .leaf (.seq .leaf (.cut [(.t 5, (.slice 5))] [2, 3] (.seq .leaf (.cond (.seq .leaf (.seq .leaf (.seq .leaf (.seq .leaf (.cond (.seq .leaf .leaf) .leaf))))) .leaf)) (.cut [] [2, 3] (.seq .leaf (.cond (.seq .leaf (.seq .leaf .leaf)) .leaf)) (.seq .leaf (.cond (.seq .leaf .leaf) .leaf))))))))))))) .leaf))))) (.seq .leaf .leaf))))))))
/-- weir/weirlaw6.started -/
def a18 : Ann := (.seq .leaf (.seq .leaf (.seq .leaf (.seq .leaf (.seq .leaf (.seq .leaf .leaf))))))
/-- weir/weirlaw6.wide -/
def a19 : Ann := (.seq .leaf (.seq .leaf (.seq .leaf .leaf)))
/-- weir/ip4.Parse -/
def a20 : Ann := (.seq .leaf (.seq (.block (.seq .leaf (.cond (.seq .leaf .leaf) (.seq .leaf (.cond (.seq .leaf .leaf) .leaf))))) (.seq .leaf (.seq .leaf (.seq (.draw (.early 0 (.early 1 (.early 2 (.early 3 (.early 4 (.early 5 (.early 6 (.early 7 (.early 8 .done)))))))))) (.cut [(.b 0, (.struct false [(.int .i64), (.int .i64), .bool, .bool, (.int .i64), (.int .i64), (.int .i64), (.struct false [(.int .i64), (.arr .u8 16)]), (.struct false [(.int .i64), (.arr .u8 16)]), (.slice 37), (.slice 5)]))] [] (.block (.seq .leaf (.cond (.seq .leaf .leaf) (.seq .leaf (.cond (.seq .leaf .leaf) (.seq .leaf (.cond (.seq .leaf .leaf) (.seq .leaf (.cond (.seq .leaf .leaf) .leaf))))))))) (.seq .leaf (.cut [(.t 11, (.int .i64))] [0] (.seq .leaf (.cond (.draw (.early 0 (.early 1 (.early 2 (.early 4 (.early 5 (.early 6 (.early 7 (.early 8 (.early 9 (.early 10 (.fork [(3, (.fork [(11, (.early 12 .done))]))])))))))))))) .leaf)) (.seq (.seq .leaf (.cond (.seq .leaf .leaf) .leaf)) (.seq (.draw (.early 0 (.early 1 (.early 2 (.early 3 (.early 4 (.early 5 (.early 6 (.early 7 (.early 8 (.early 10 (.early 11 (.early 12 (.early 14 (.early 15 (.early 16 (.early 17 (.early 18 (.early 19 (.early 20 (.early 21 (.early 22 (.early 23 (.early 24 (.fork [(9, (.fork [(13, (.early 25 (.fork [(26, (.fork [(27, .done)]))]))), (26, (.fork [(13, (.early 25 (.fork [(27, .done)])))]))])), (26, (.fork [(9, (.fork [(13, (.early 25 (.fork [(27, .done)])))]))]))]))))))))))))))))))))))))) (.seq (.draw (.early 0 (.early 1 (.early 3 (.early 4 (.fork [(2, (.early 6 (.fork [(5, (.fork [(7, (.early 8 (.fork [(9, .done)])))]))])))])))))) (.seq .leaf (.seq .leaf .leaf)))))))))))))
/-- weir/weirlaw6.num -/
def a21 : Ann := (.seq .leaf (.seq .leaf .leaf))
/-- weir/weirlaw6.kept -/
def a22 : Ann := (.seq .leaf (.seq .leaf (.seq .leaf .leaf)))
/-- weir/weirref6.Copied -/
def a23 : Ann := (.seq .leaf (.seq .leaf (.seq .leaf .leaf)))
/-- weir/weirref6.Alike -/
def a24 : Ann := (.seq .leaf (.seq .leaf .leaf))
/-- weir/ip4.Serialise -/
def a25 : Ann := (.seq .leaf (.seq (.seq .leaf (.seq .leaf (.cond (.seq .leaf .leaf) .leaf))) (.seq .leaf (.seq .leaf (.seq .leaf (.seq (.drawF [1] (.early 1 (.early 2 (.early 3 (.early 4 (.early 5 (.early 6 (.early 7 (.early 8 (.early 9 (.early 10 (.early 11 (.early 12 (.early 13 (.early 15 (.early 16 (.early 18 (.early 19 (.early 20 (.early 21 (.early 22 (.early 23 (.early 24 (.fork [(0, (.fork [(14, (.fork [(17, (.fork [(25, (.fork [(26, (.early 27 (.early 28 (.early 29 (.early 30 (.early 31 .done))))))]))]))]))])), (14, (.fork [(0, (.fork [(17, (.fork [(25, (.fork [(26, (.early 27 (.early 28 (.early 29 (.early 30 (.early 31 .done))))))]))]))])), (17, (.fork [(0, (.fork [(25, (.fork [(26, (.early 27 (.early 28 (.early 29 (.early 30 (.early 31 .done))))))]))])), (25, (.fork [(0, (.fork [(26, (.early 27 (.early 28 (.early 29 (.early 30 (.early 31 .done))))))]))]))]))]))])))))))))))))))))))))))) (.seq (.seq .leaf (.cond (.seq .leaf .leaf) .leaf)) (.seq .leaf (.seq .leaf (.seq .leaf (.seq .leaf (.seq .leaf (.seq .leaf .leaf)))))))))))))
/-- weir/weirref6.Clone -/
def a26 : Ann := (.seq .leaf (.seq .leaf (.seq .leaf (.seq .leaf .leaf))))
/-- weir/ip4.PutOptions -/
def a27 : Ann := (.seq .leaf (.seq .leaf (.seq (.seq .leaf (.block (.loop [(.t 4, (.slice 5)), (.t 9, (.int .i64))] [] (.seq .leaf (.seq (.cond .leaf .leaf) (.seq (.block (.seq .leaf (.cut [] [0] (.seq .leaf (.cond (.seq .leaf .leaf) .leaf)) (.seq .leaf .leaf)))) .leaf)))))) (.seq (.block (.loop [(.t 4, (.slice 5))] [] (.seq (.seq .leaf (.cond .leaf .leaf)) (.block .leaf)))) (.seq .leaf .leaf)))))
/-- weir/weirlaw6.marked -/
def a28 : Ann := (.seq .leaf (.seq (.seq .leaf (.block (.loop [(.t 5, (.int .i64))] [] (.seq (.seq .leaf (.cond .leaf .leaf)) (.seq (.block .leaf) .leaf))))) (.seq .leaf (.seq .leaf (.seq .leaf (.seq .leaf (.seq .leaf .leaf)))))))
/-- weir/weirref6.Same -/
def a29 : Ann := (.seq .leaf (.cut [] [0, 1] (.seq .leaf (.cond (.seq .leaf .leaf) .leaf)) (.seq .leaf .leaf)))
/-- weir/weirlaw6.holds -/
def a30 : Ann := (.seq .leaf (.seq (.seq .leaf (.block (.loop [(.t 5, (.int .i64))] [] (.seq (.seq .leaf (.cond .leaf .leaf)) (.seq (.block (.seq .leaf (.block (.loop [(.t 6, (.int .i64))] [] (.seq (.seq .leaf (.cond .leaf .leaf)) (.seq (.block (.seq .leaf (.cond (.seq .leaf .leaf) .leaf))) .leaf)))))) .leaf))))) (.seq .leaf .leaf)))
/-- (*weir/weirlaw3.Desk).Lend -/
def a31 : Ann := (.seq .leaf (.cut [] [] (.seq .leaf (.cond .leaf .leaf)) (.seq (.seq .leaf (.block (.loop [(.t 5, (.int .i64))] [] (.seq (.seq .leaf (.cond .leaf .leaf)) (.seq (.block (.draw (.early 0 (.early 1 (.early 2 (.early 3 (.early 4 (.early 5 (.fork [(6, (.early 7 (.fork [(8, .done)])))]))))))))) .leaf))))) (.seq .leaf (.seq .leaf (.seq .leaf .leaf))))))
/-- (*weir/weirlaw6.Rooms).Lay -/
def a32 : Ann := (.seq .leaf (.cut [] [] (.seq .leaf (.cond .leaf .leaf)) (.seq (.seq .leaf (.block (.loop [(.t 5, (.int .i64))] [] (.seq (.seq .leaf (.cond .leaf .leaf)) (.seq (.block .leaf) .leaf))))) (.seq (.seq .leaf (.block (.loop [(.t 6, (.int .i64))] [] (.seq (.seq .leaf (.cond .leaf .leaf)) (.cut [] [] (.block (.cut [] [] (.seq .leaf (.cond .leaf .leaf)) (.draw (.early 0 (.early 1 (.early 2 (.early 3 (.early 4 (.early 5 (.early 6 (.early 7 (.early 8 (.early 9 (.early 10 (.early 11 (.early 12 (.early 13 (.early 14 (.early 15 (.early 16 (.early 17 (.early 18 (.early 19 (.early 20 (.early 21 (.fork [(22, (.early 23 (.early 24 (.fork [(25, .done)]))))])))))))))))))))))))))))))) .leaf))))) (.seq .leaf (.seq .leaf .leaf))))))
/-- weir/ip4.Check -/
def a33 : Ann := (.seq .leaf (.cut [] [0] (.seq .leaf (.cond (.seq .leaf .leaf) .leaf)) (.seq .leaf (.seq (.seq .leaf (.cond (.seq .leaf .leaf) .leaf)) (.seq (.seq .leaf (.cond (.seq .leaf .leaf) .leaf)) (.seq .leaf .leaf))))))
/-- weir/weirref6.Serialise -/
def a34 : Ann := (.seq .leaf (.seq .leaf (.seq (.seq .leaf (.cond (.seq .leaf .leaf) .leaf)) (.seq .leaf (.seq .leaf (.seq .leaf (.cut [(.t 8, (.int .i64))] [0] (.seq .leaf (.cond .leaf .leaf)) (.cut [(.t 8, (.int .i64))] [0] (.seq .leaf (.cond .leaf .leaf)) (.seq .leaf (.seq .leaf (.seq .leaf (.seq .leaf (.seq .leaf (.seq .leaf (.seq (.seq .leaf (.block (.loop [(.t 10, (.slice 5)), (.t 11, (.int .i64))] [0] (.seq (.seq .leaf (.cond .leaf .leaf)) (.seq (.block .leaf) .leaf))))) (.seq (.seq .leaf (.block (.loop [(.t 10, (.slice 5)), (.t 12, (.int .i64))] [0] (.seq (.seq .leaf (.cond .leaf .leaf)) (.seq (.block .leaf) .leaf))))) (.seq .leaf (.seq .leaf (.seq .leaf (.seq .leaf (.seq .leaf .leaf)))))))))))))))))))))
/-- weir/weirref6.PutOptions -/
def a35 : Ann := (.seq .leaf (.seq .leaf (.seq (.seq .leaf (.block (.loop [(.t 4, (.slice 5)), (.t 5, (.int .i64))] [] (.seq (.seq .leaf (.cond .leaf .leaf)) (.cut [(.t 4, (.slice 5))] [] (.block (.seq .leaf (.cut [] [] (.seq .leaf (.cond (.seq .leaf .leaf) .leaf)) (.seq .leaf .leaf)))) .leaf))))) (.seq (.block (.loop [(.t 4, (.slice 5))] [] (.seq (.seq .leaf (.cond .leaf .leaf)) (.block .leaf)))) (.seq (.seq .leaf (.cond (.seq .leaf .leaf) .leaf)) (.seq .leaf .leaf))))))
/-- weir/weirref6.Check -/
def a36 : Ann := (.seq .leaf (.cut [] [0] (.seq .leaf (.cond (.seq .leaf .leaf) .leaf)) (.seq .leaf (.seq (.seq .leaf (.cond (.seq .leaf .leaf) .leaf)) (.seq (.seq .leaf (.cond (.seq .leaf .leaf) .leaf)) (.seq (.seq .leaf (.cond (.seq .leaf .leaf) .leaf)) (.seq .leaf .leaf)))))))
/-- (*weir/weirlaw3.Desk).Back -/
def a37 : Ann := (.seq .leaf (.cut [] [] (.seq (.draw (.early 0 (.early 1 (.early 2 (.early 3 (.early 4 (.early 5 (.early 6 (.early 7 (.early 8 (.early 9 (.early 10 (.early 11 (.early 12 (.early 13 (.early 14 (.early 15 (.early 16 (.early 17 (.fork [(18, (.early 19 (.early 20 .done)))])))))))))))))))))))) (.cond (.seq .leaf .leaf) .leaf)) (.seq (.seq .leaf (.block (.loop [(.t 5, (.int .i64))] [] (.seq (.seq .leaf (.cond .leaf .leaf)) (.seq (.block (.seq (.draw (.early 0 (.early 1 (.early 2 (.early 3 (.early 4 (.early 5 (.early 6 (.early 7 (.fork [(8, (.early 9 .done))])))))))))) (.cond (.seq .leaf .leaf) .leaf))) .leaf))))) (.seq .leaf .leaf))))
/-- (*weir/weirlaw6.Rooms).Stand -/
def a38 : Ann := (.seq .leaf (.cut [] [] (.seq (.draw (.early 0 (.early 1 (.early 2 (.early 3 (.early 4 (.early 5 (.early 6 (.early 7 (.early 8 (.early 9 (.early 10 (.early 11 (.early 12 (.early 13 (.early 14 (.early 15 (.early 16 (.early 17 (.fork [(18, (.early 19 (.early 20 .done)))])))))))))))))))))))) (.cond (.seq .leaf .leaf) .leaf)) (.seq (.seq .leaf (.block (.loop [(.t 5, (.int .i64))] [] (.seq (.seq .leaf (.cond .leaf .leaf)) (.seq (.block (.seq (.draw (.early 0 (.early 1 (.early 2 (.early 3 (.early 4 (.early 5 (.early 6 (.early 7 (.early 8 (.early 9 (.early 10 (.early 11 (.fork [(12, (.early 13 .done))])))))))))))))) (.seq .leaf (.cond (.seq .leaf .leaf) .leaf)))) .leaf))))) (.seq (.seq .leaf (.block (.loop [(.t 7, (.int .i64))] [] (.seq (.seq .leaf (.cond .leaf .leaf)) (.cut [] [] (.block (.seq .leaf (.cond (.seq .leaf .leaf) .leaf))) .leaf))))) (.seq .leaf .leaf)))))
/-- (*weir/weirlaw3.Book).Keep -/
def a39 : Ann := (.seq .leaf (.seq .leaf (.seq .leaf .leaf)))
/-- (*weir/weirlaw3.Book).Untouched -/
def a40 : Ann := (.seq .leaf (.seq (.seq .leaf (.block (.loop [(.t 3, (.int .i64))] [] (.seq (.seq .leaf (.cond .leaf .leaf)) (.seq (.block (.seq (.draw (.early 0 (.early 1 (.early 2 (.early 3 (.early 4 (.early 5 (.early 6 (.early 7 (.early 8 (.early 9 (.early 10 (.early 11 (.early 12 (.early 13 (.fork [(14, (.early 15 .done))])))))))))))))))) (.cond (.seq .leaf .leaf) .leaf))) .leaf))))) (.seq .leaf .leaf)))
/-- weir/weirlaw6.Turn -/
def a41 : Ann := (.seq .leaf (.cut [] [0] (.seq .leaf (.cond (.draw (.early 0 (.early 1 (.early 2 (.early 3 (.early 4 (.early 6 (.early 7 (.early 8 (.fork [(5, (.early 9 (.fork [(10, .done)])))])))))))))) .leaf)) (.seq (.seq .leaf (.cond .leaf .leaf)) (.seq .leaf (.seq .leaf (.cond (.draw (.early 0 (.early 1 (.early 2 (.early 3 (.early 4 (.early 6 (.early 7 (.early 8 (.fork [(5, (.early 9 (.fork [(10, .done)])))])))))))))) .leaf))))))
/-- (*weir/weirlaw3.Book).Settle -/
def a42 : Ann := (.seq .leaf (.seq (.seq .leaf (.cond (.seq .leaf .leaf) .leaf)) (.seq (.seq .leaf (.block (.loop [(.t 3, (.int .i64))] [] (.seq (.seq .leaf (.cond .leaf .leaf)) (.seq (.block (.seq .leaf (.block (.loop [(.t 4, (.int .i64))] [] (.seq (.seq .leaf (.cond .leaf .leaf)) (.seq (.block .leaf) .leaf)))))) .leaf))))) (.seq .leaf (.seq (.seq .leaf (.block (.loop [(.t 5, (.slice 22)), (.t 6, (.int .i64))] [] (.seq (.seq .leaf (.cond .leaf .leaf)) (.seq (.block (.seq .leaf (.seq .leaf (.seq (.block (.loop [(.t 7, (.slice 5))] [] (.seq (.seq .leaf (.cond .leaf .leaf)) (.block .leaf)))) .leaf)))) .leaf))))) (.seq (.seq .leaf (.block (.loop [(.t 9, (.int .i64))] [] (.seq (.seq .leaf (.cond .leaf .leaf)) (.cut [] [] (.block (.seq .leaf (.cond (.seq .leaf .leaf) .leaf))) .leaf))))) (.seq .leaf .leaf)))))))
/-- weir/ip4.Canonical -/
def a43 : Ann := (.seq .leaf (.seq .leaf (.seq (.seq .leaf (.cond (.seq .leaf .leaf) .leaf)) (.seq .leaf (.seq .leaf .leaf)))))
/-- weir/sum.Good -/
def a44 : Ann := (.seq .leaf (.seq .leaf .leaf))
/-- weir/weirlaw6.plays -/
def a45 : Ann := (.seq .leaf (.seq .leaf (.seq (.seq .leaf (.block (.loop [(.t 7, .bool), (.t 8, (.int .i64))] [] (.cut [] [] (.seq .leaf (.cond .leaf .leaf)) (.cut [(.t 7, .bool)] [] (.block (.seq .leaf (.cut [] [0] (.seq .leaf (.cond .leaf .leaf)) (.seq .leaf (.cond .leaf .leaf))))) .leaf))))) (.seq .leaf .leaf))))
/-- weir/ip4.Hop -/
def a46 : Ann := (.seq .leaf (.seq (.seq .leaf (.seq .leaf (.cond (.seq .leaf .leaf) .leaf))) (.seq (.seq .leaf (.cond (.seq .leaf .leaf) .leaf)) (.seq .leaf (.seq .leaf (.seq .leaf (.seq (.seq .leaf (.cond (.seq .leaf .leaf) .leaf)) (.seq .leaf (.seq (.drawK [] (.early 0 (.early 1 (.early 2 (.early 3 (.early 4 (.early 5 (.early 6 (.early 7 (.fork [(8, (.early 9 (.fork [(10, .done)])))])))))))))) (.seq .leaf .leaf))))))))))
/-- weir/weirref6.Parse -/
def a47 : Ann := (.seq .leaf (.seq .leaf (.seq (.seq .leaf (.cond (.seq .leaf .leaf) .leaf)) (.seq (.seq .leaf (.cond (.seq .leaf .leaf) .leaf)) (.seq .leaf (.seq .leaf (.cut [(.b 0, (.struct false [(.int .i64), (.int .i64), .bool, .bool, (.int .i64), (.int .i64), (.int .i64), (.struct false [(.int .i64), (.arr .u8 16)]), (.struct false [(.int .i64), (.arr .u8 16)]), (.slice 37), (.slice 5)]))] [1] (.block (.seq .leaf (.cond (.seq .leaf .leaf) (.seq .leaf (.cond (.seq .leaf .leaf) (.seq .leaf (.cond (.seq .leaf .leaf) .leaf))))))) (.seq .leaf (.seq (.seq .leaf (.cond (.seq .leaf .leaf) .leaf)) (.seq .leaf (.seq (.seq .leaf (.cond (.seq .leaf .leaf) .leaf)) (.seq .leaf (.seq (.draw (.early 0 (.early 1 (.early 2 (.early 3 (.early 4 (.early 6 (.early 7 (.early 8 (.early 9 (.early 10 (.early 11 (.early 12 (.early 13 (.early 14 (.early 15 (.early 16 (.early 17 (.early 18 (.early 19 (.early 20 (.early 21 (.early 22 (.early 23 (.early 24 (.early 25 (.early 27 (.early 29 (.early 30 (.early 31 (.early 32 (.early 33 (.fork [(5, (.fork [(26, (.fork [(28, (.fork [(34, (.early 35 (.fork [(36, (.fork [(37, .done)]))]))), (36, (.fork [(34, (.early 35 (.fork [(37, .done)])))]))])), (36, (.fork [(28, (.fork [(34, (.early 35 (.fork [(37, .done)])))]))]))])), (36, (.fork [(26, (.fork [(28, (.fork [(34, (.early 35 (.fork [(37, .done)])))]))]))]))])), (36, (.fork [(5, (.fork [(26, (.fork [(28, (.fork [(34, (.early 35 (.fork [(37, .done)])))]))]))]))]))]))))))))))))))))))))))))))))))))) (.seq (.seq .leaf (.cond (.seq .leaf .leaf) .leaf)) (.seq .leaf .leaf)))))))))))))))
/-- weir/weirref6.Canonical -/
def a48 : Ann := (.seq .leaf (.seq .leaf (.seq (.seq .leaf (.cond (.seq .leaf .leaf) .leaf)) (.seq .leaf (.seq .leaf .leaf)))))
/-- weir/ip4.Options -/
def a49 : Ann := (.seq .leaf (.seq (.seq .leaf (.cond (.seq .leaf .leaf) .leaf)) (.seq .leaf (.seq (.seq .leaf (.block (.loop [(.t 4, (.slice 37)), (.t 5, (.int .i64))] [] (.seq (.seq .leaf (.cond .leaf .leaf)) (.block (.seq (.seq .leaf (.block (.seq .leaf (.cond (.seq .leaf .leaf) (.seq .leaf (.cond (.seq .leaf .leaf) .leaf)))))) (.seq (.seq .leaf (.cond (.seq .leaf .leaf) .leaf)) (.seq .leaf (.cut [] [] (.seq .leaf (.cond (.seq .leaf .leaf) .leaf)) (.seq (.draw (.early 0 (.early 1 (.early 2 (.early 3 (.early 4 (.early 5 (.early 6 (.early 7 (.early 8 (.early 9 (.early 10 (.early 11 (.early 12 (.early 13 (.early 14 (.early 15 (.early 16 (.fork [(17, (.fork [(18, (.early 19 .done))]))]))))))))))))))))))) .leaf)))))))))) (.seq .leaf .leaf)))))
/-- weir/weirref6.Options -/
def a50 : Ann := (.seq .leaf (.seq (.seq .leaf (.cond (.seq .leaf .leaf) .leaf)) (.seq .leaf (.seq .leaf (.cut [(.t 4, (.slice 37))] [] (.block (.loop [(.t 4, (.slice 37)), (.t 5, (.int .i64))] [] (.cut [] [] (.seq .leaf (.cond .leaf .leaf)) (.block (.seq (.seq .leaf (.cond (.seq .leaf .leaf) .leaf)) (.cut [] [] (.seq .leaf (.cond (.seq .leaf .leaf) .leaf)) (.seq .leaf (.seq (.draw (.early 0 (.early 1 (.early 2 (.early 3 (.early 4 (.early 5 (.early 6 (.early 7 (.early 8 (.early 9 (.early 10 (.early 11 (.early 12 (.fork [(13, (.early 14 (.fork [(15, (.fork [(16, (.early 17 .done))]))])))]))))))))))))))) .leaf)))))))) (.seq .leaf .leaf))))))
/-- weir/weirref6.SameOpts -/
def a51 : Ann := (.seq .leaf (.seq (.seq .leaf (.cond (.seq .leaf .leaf) .leaf)) (.seq (.seq .leaf (.block (.loop [(.t 5, (.int .i64))] [] (.seq (.seq .leaf (.cond .leaf .leaf)) (.cut [] [] (.block (.seq (.draw (.early 0 (.early 1 (.early 2 (.early 3 (.early 4 (.early 5 (.early 6 (.early 7 (.early 8 (.early 9 (.fork [(10, (.early 11 .done))])))))))))))) (.seq (.draw (.early 0 (.early 1 (.early 2 (.early 3 (.early 4 (.early 5 (.early 6 (.early 7 (.early 8 (.early 9 (.early 10 (.early 11 (.early 12 (.early 13 (.early 14 .done)))))))))))))))) (.cond (.seq .leaf .leaf) .leaf)))) .leaf))))) (.seq .leaf .leaf))))
/-- (*weir/weirlaw6.Lists).Keep -/
def a52 : Ann := (.seq .leaf (.seq .leaf (.seq .leaf .leaf)))
/-- weir/weirref6.Hop -/
def a53 : Ann := (.seq .leaf (.seq .leaf (.seq (.seq .leaf (.cond (.seq .leaf .leaf) .leaf)) (.seq (.seq .leaf (.cond (.seq .leaf .leaf) .leaf)) (.seq .leaf (.seq .leaf (.seq .leaf (.seq (.draw (.early 0 (.early 1 (.early 2 (.early 3 (.early 4 (.fork [(5, (.fork [(6, (.early 7 .done))]))]))))))) (.seq .leaf (.seq .leaf (.seq .leaf .leaf)))))))))))
/-- weir/weirlaw6.Spot -/
def a54 : Ann := (.seq .leaf (.seq .leaf (.seq (.seq .leaf (.cond .leaf .leaf)) (.seq .leaf .leaf))))
/-- (*weir/weirlaw6.Lists).Untouched -/
def a55 : Ann := (.seq .leaf (.seq (.seq .leaf (.block (.loop [(.t 3, (.int .i64))] [] (.seq (.seq .leaf (.cond .leaf .leaf)) (.seq (.block (.seq .leaf (.block (.loop [(.t 4, (.int .i64))] [] (.seq (.seq .leaf (.cond .leaf .leaf)) (.cut [] [] (.block (.seq (.draw (.early 0 (.early 1 (.early 2 (.early 3 (.early 4 (.early 5 (.early 6 (.early 7 (.early 8 (.early 9 (.early 10 (.early 11 (.early 12 (.early 13 (.early 14 (.early 15 (.early 16 (.early 17 (.early 18 (.early 19 (.early 20 (.early 21 (.early 22 (.early 23 (.early 24 (.early 25 (.early 26 (.early 27 (.early 28 (.early 29 (.early 30 (.early 31 (.early 32 (.early 33 (.early 34 (.early 35 (.early 36 (.early 37 (.early 38 (.early 39 (.early 40 (.early 41 (.early 42 (.early 43 (.early 44 (.early 45 (.early 46 (.early 47 (.early 48 (.early 49 .done))))))))))))))))))))))))))))))))))))))))))))))))))) (.cond (.seq .leaf .leaf) .leaf))) .leaf)))))) .leaf))))) (.seq .leaf .leaf)))
/-- (*weir/weirlaw6.Lists).Settle -/
def a56 : Ann := (.seq .leaf (.seq (.seq .leaf (.cond (.seq .leaf .leaf) .leaf)) (.seq (.seq .leaf (.block (.loop [(.t 3, (.int .i64))] [] (.seq (.seq .leaf (.cond .leaf .leaf)) (.seq (.block (.seq .leaf (.block (.loop [(.t 4, (.int .i64))] [] (.seq (.seq .leaf (.cond .leaf .leaf)) (.seq (.block .leaf) .leaf)))))) .leaf))))) (.seq .leaf (.seq (.seq .leaf (.block (.loop [(.t 5, (.slice 28)), (.t 6, (.int .i64))] [] (.seq (.seq .leaf (.cond .leaf .leaf)) (.seq (.block (.seq .leaf (.seq .leaf (.seq (.block (.loop [(.t 7, (.slice 37))] [] (.seq (.seq .leaf (.cond .leaf .leaf)) (.block .leaf)))) .leaf)))) .leaf))))) (.seq (.seq .leaf (.block (.loop [(.t 9, (.int .i64))] [] (.seq (.seq .leaf (.cond .leaf .leaf)) (.cut [] [] (.block (.seq .leaf (.cond (.seq .leaf .leaf) .leaf))) .leaf))))) (.seq .leaf .leaf)))))))
/-- weir/weirlaw6.plain -/
def a57 : Ann := (.seq .leaf (.seq .leaf (.seq .leaf .leaf)))
/-- weir/view.Fields -/
def a58 : Ann := (.seq .leaf (.seq .leaf (.seq (.seq .leaf (.cond (.seq (.drawK [] (.early 0 (.fork [(1, (.fork [(2, (.fork [(3, .done)]))]))]))) .leaf) .leaf)) (.seq .leaf (.seq .leaf (.seq .leaf (.seq (.seq .leaf (.block (.loop [(.t 11, (.int .i64)), (.t 30, (.int .i64))] [] (.seq .leaf (.seq (.cond .leaf .leaf) (.seq (.block (.seq .leaf (.seq .leaf (.seq (.seq .leaf (.block (.loop [(.t 11, (.int .i64)), (.t 14, (.int .i64)), (.t 35, (.int .i64))] [] (.seq .leaf (.seq (.cond .leaf .leaf) (.seq (.block (.seq .leaf .leaf)) .leaf)))))) .leaf)))) .leaf)))))) (.seq .leaf .leaf))))))))
/-- weir/ip4.fragment -/
def a59 : Ann := (.seq .leaf (.seq (.seq .leaf (.cond (.seq .leaf .leaf) .leaf)) (.seq .leaf .leaf)))
/-- weir/ip4.truth -/
def a60 : Ann := (.seq .leaf (.seq .leaf .leaf))
/-- weir/ip4.address -/
def a61 : Ann := (.seq .leaf (.seq .leaf (.seq .leaf (.seq .leaf .leaf))))
/-- weir/view.Pack -/
def a62 : Ann := (.seq .leaf (.seq .leaf (.seq (.seq .leaf (.cond (.seq .leaf .leaf) .leaf)) (.seq (.seq .leaf (.cond (.seq .leaf .leaf) .leaf)) (.seq .leaf (.seq .leaf (.seq (.seq .leaf (.block (.loop [(.t 9, (.int .i64)), (.t 31, (.int .i64))] [] (.seq .leaf (.seq (.cond .leaf .leaf) (.seq (.block (.seq .leaf (.seq .leaf (.cut [] [] (.seq .leaf (.cond (.seq .leaf .leaf) .leaf)) (.seq .leaf (.block (.loop [(.t 9, (.int .i64)), (.t 13, (.int .i64))] [] (.seq (.seq .leaf (.cond .leaf .leaf)) (.seq (.block (.seq .leaf .leaf)) .leaf))))))))) .leaf)))))) (.seq .leaf .leaf))))))))
/-- weir/ip4.bit -/
def a63 : Ann := (.seq .leaf (.seq (.seq .leaf (.cond (.seq .leaf .leaf) .leaf)) (.seq .leaf .leaf)))
/-- weir/sum.Check -/
def a64 : Ann := (.seq .leaf (.seq .leaf .leaf))
/-- weir/weirref6.CloneOpts -/
def a65 : Ann := (.seq .leaf (.seq .leaf (.seq (.seq .leaf (.block (.loop [(.t 3, (.slice 37)), (.t 4, (.int .i64))] [] (.seq (.seq .leaf (.cond .leaf .leaf)) (.seq (.block (.draw (.early 0 (.early 1 (.early 2 (.early 3 (.early 4 (.early 5 (.early 6 (.early 7 (.early 8 (.early 9 (.early 10 (.fork [(11, (.early 12 (.fork [(13, (.fork [(14, (.early 15 .done))]))])))])))))))))))))) .leaf))))) (.seq .leaf .leaf))))
/-- weir/weirlaw6.full -/
def a66 : Ann := (.seq .leaf (.seq .leaf (.seq (.seq .leaf (.block (.loop [(.t 3, (.slice 5)), (.t 4, (.int .i64))] [] (.seq (.seq .leaf (.cond .leaf .leaf)) (.seq (.block .leaf) .leaf))))) (.seq .leaf .leaf))))
/-- weir/weirlaw3.mark -/
def a67 : Ann := (.seq .leaf (.seq .leaf .leaf))
/-- weir/ip4.out -/
def a68 : Ann := (.seq .leaf (.seq .leaf .leaf))
/-- weir/ip4.four -/
def a69 : Ann := (.seq .leaf (.seq .leaf (.seq (.drawF [1, 0] (.early 1 (.fork [(0, (.fork [(2, (.fork [(3, .done)]))])), (2, (.fork [(0, (.fork [(3, .done)]))]))]))) (.seq .leaf .leaf))))
/-- weir/weirref6.add -/
def a70 : Ann := (.seq .leaf (.seq .leaf .leaf))
/-- weir/weirref2.Check -/
def a71 : Ann := (.seq .leaf (.seq .leaf .leaf))
/-- weir/weirref6.out -/
def a72 : Ann := (.seq .leaf (.seq .leaf .leaf))
/-- weir/weirref6.four -/
def a73 : Ann := (.seq .leaf (.seq (.seq .leaf (.block (.loop [(.t 3, (.int .i64))] [0] (.seq (.seq .leaf (.cond .leaf .leaf)) (.seq (.block (.seq .leaf (.cond (.seq .leaf .leaf) .leaf))) .leaf))))) (.seq .leaf .leaf)))
/-- weir/weirref6.frag -/
def a74 : Ann := (.seq .leaf (.seq .leaf .leaf))
/-- weir/weirlaw3.alike -/
def a75 : Ann := (.seq .leaf (.seq .leaf .leaf))
/-- weir/weirlaw3.full -/
def a76 : Ann := (.seq .leaf (.seq (.seq .leaf (.block (.loop [(.t 5, (.int .i64))] [] (.seq (.seq .leaf (.cond .leaf .leaf)) (.seq (.block (.seq .leaf (.cond (.seq .leaf .leaf) .leaf))) .leaf))))) (.seq .leaf .leaf)))
/-- bytes.Equal -/
def a77 : Ann := (.seq .leaf (.seq .leaf .leaf))
/-- weir/sum.Sum -/
def a78 : Ann := (.seq .leaf (.seq .leaf (.seq (.seq .leaf (.block (.loop [(.t 3, (.int .i64)), (.t 4, .bool), (.t 11, (.int .i64))] [] (.seq .leaf (.seq (.cond .leaf .leaf) (.seq (.block (.seq .leaf (.seq (.seq .leaf (.block (.loop [(.t 3, (.int .i64)), (.t 4, .bool), (.t 17, (.int .i64))] [] (.seq .leaf (.seq (.cond .leaf .leaf) (.seq (.block (.seq .leaf (.cut [(.t 3, (.int .i64))] [] (.seq .leaf (.cond .leaf .leaf)) .leaf))) .leaf)))))) .leaf))) .leaf)))))) (.seq .leaf .leaf))))
/-- weir/weirlaw6.values -/
def a79 : Ann := (.seq .leaf (.seq .leaf (.seq .leaf (.seq .leaf (.seq .leaf (.seq .leaf (.seq .leaf (.seq .leaf (.cut [(.t 9, .bool)] [0, 1] (.seq .leaf (.block (.seq .leaf (.cond (.seq .leaf (.draw (.early 0 (.early 2 (.early 3 (.fork [(1, (.fork [(4, (.early 5 (.early 6 .done)))]))])))))) (.seq .leaf (.cond (.seq .leaf (.seq .leaf .leaf)) (.seq .leaf (.cond (.seq .leaf (.seq .leaf .leaf)) .leaf)))))))) (.seq .leaf .leaf))))))))))
/-- weir/weirlaw6.bytes -/
def a80 : Ann := (.seq .leaf (.seq .leaf (.seq .leaf (.seq .leaf (.cut [(.t 5, .bool)] [0] (.seq .leaf (.block (.seq .leaf (.cond (.seq .leaf (.seq .leaf .leaf)) (.seq .leaf (.cond (.draw (.early 0 (.early 2 (.early 3 (.fork [(1, (.fork [(4, (.early 5 (.early 6 .done)))]))]))))) (.seq .leaf (.cond (.seq .leaf (.seq .leaf .leaf)) (.seq .leaf (.cond (.seq .leaf (.seq .leaf (.seq .leaf .leaf))) .leaf)))))))))) (.seq .leaf .leaf))))))
/-- weir/ip4.Hop$1 -/
def a81 : Ann := (.seq .leaf (.seq (.draw (.early 0 (.early 1 (.early 2 (.early 3 (.early 4 (.early 5 (.early 6 (.early 7 (.early 8 (.early 9 (.early 10 (.early 11 (.early 12 (.early 13 .done))))))))))))))) .leaf))
/-- weir/sum.Fix -/
def a82 : Ann := (.seq .leaf (.seq (.seq .leaf (.block (.loop [(.t 14, (.int .i64))] [] (.seq .leaf (.seq (.cond .leaf .leaf) (.seq (.block (.seq .leaf (.seq .leaf (.cond (.seq .leaf .leaf) .leaf)))) .leaf)))))) (.seq .leaf .leaf)))
/-- weir/weirref6.two -/
def a83 : Ann := (.seq .leaf (.seq (.draw (.early 0 (.early 1 (.early 2 (.early 3 (.early 4 (.early 5 (.early 6 (.early 7 (.early 8 (.early 9 (.early 10 (.early 11 (.early 12 (.early 13 .done))))))))))))))) .leaf))
/-- weir/weirref2.Good -/
def a84 : Ann := (.seq .leaf (.seq .leaf .leaf))
/-- weir/weirref6.address -/
def a85 : Ann := (.seq .leaf (.seq .leaf (.seq (.seq .leaf (.block (.loop [(.t 6, (.int .i64)), (.b 1, (.struct false [(.int .i64), (.arr .u8 16)]))] [0] (.seq (.seq .leaf (.cond .leaf .leaf)) (.seq (.block .leaf) .leaf))))) (.seq .leaf .leaf))))
/-- weir/weirlaw6.only -/
def a86 : Ann := (.seq .leaf (.seq (.seq .leaf (.block (.loop [(.t 5, (.int .i64))] [] (.seq (.seq .leaf (.cond .leaf .leaf)) (.cut [] [] (.block (.seq .leaf (.cond (.seq .leaf .leaf) .leaf))) .leaf))))) (.seq .leaf .leaf)))
/-- weir/view.bits -/
def a87 : Ann := (.seq .leaf (.seq (.seq .leaf (.cond (.seq .leaf .leaf) .leaf)) (.seq .leaf (.seq (.seq .leaf (.block (.loop [(.t 4, (.int .i64)), (.t 12, (.int .i64))] [] (.seq .leaf (.seq (.cond .leaf .leaf) (.seq (.block (.seq .leaf (.cut [] [] (.seq .leaf (.cond (.seq .leaf .leaf) .leaf)) .leaf))) .leaf)))))) (.seq (.seq .leaf (.cond (.seq .leaf .leaf) .leaf)) (.seq .leaf .leaf))))))
/-- weir/view.Fields$1 -/
def a88 : Ann := (.seq .leaf (.cond .leaf .leaf))
/-- weir/view.part -/
def a89 : Ann := (.seq .leaf (.cut [] [] (.seq .leaf (.cond .leaf .leaf)) (.seq .leaf .leaf)))
/-- weir/view.look -/
def a90 : Ann := (.seq .leaf (.cut [] [] (.seq .leaf (.cond .leaf .leaf)) (.seq .leaf .leaf)))
/-- weir/weirref2.Sum -/
def a91 : Ann := (.seq .leaf (.seq .leaf (.seq .leaf (.seq (.seq .leaf (.block (.loop [(.t 3, (.int .i64)), (.t 4, (.int .i64)), (.t 5, (.int .i64))] [] (.seq (.seq .leaf (.cond .leaf .leaf)) (.seq (.block (.seq .leaf (.block (.loop [(.t 3, (.int .i64)), (.t 4, (.int .i64)), (.t 6, (.int .i64))] [] (.seq (.seq .leaf (.cond .leaf .leaf)) (.cut [(.t 3, (.int .i64)), (.t 4, (.int .i64))] [] (.block (.seq .leaf (.cut [(.t 7, (.int .i64))] [] (.seq .leaf (.cond .leaf .leaf)) (.seq .leaf .leaf)))) .leaf)))))) .leaf))))) (.seq .leaf .leaf)))))
/-- weir/sum.fold -/
def a92 : Ann := (.seq .leaf (.seq (.block (.loop [(.t 0, (.int .i64))] [] (.seq (.seq .leaf (.cond .leaf .leaf)) (.block .leaf)))) (.seq .leaf .leaf)))
/-- weir/weirlaw6.laid -/
def a93 : Ann := (.seq .leaf (.seq .leaf (.seq .leaf (.seq (.seq .leaf (.block (.loop [(.t 4, (.slice 37)), (.t 5, (.slice 22)), (.t 6, (.int .i64))] [] (.seq (.seq .leaf (.cond .leaf .leaf)) (.seq (.block (.seq .leaf (.seq .leaf (.draw (.early 0 (.early 1 (.early 2 (.early 3 (.early 4 (.early 5 (.early 6 (.early 7 (.early 8 (.early 9 (.early 10 (.early 11 (.early 12 (.early 13 (.early 14 (.fork [(15, (.fork [(16, (.early 17 .done))]))])))))))))))))))))))) .leaf))))) (.seq .leaf (.seq .leaf .leaf))))))
/-- weir/weirlaw6.same -/
def a94 : Ann := (.seq .leaf (.seq .leaf (.cut [] [] (.seq .leaf (.cond (.seq .leaf .leaf) .leaf)) (.seq (.seq .leaf (.block (.loop [(.t 8, (.int .i64))] [] (.seq (.seq .leaf (.cond .leaf .leaf)) (.seq (.block (.seq (.draw (.early 0 (.early 1 (.early 2 (.early 3 (.early 4 (.early 5 (.early 6 (.early 7 (.early 8 (.fork [(9, (.early 10 .done))]))))))))))) (.seq .leaf (.cond (.seq .leaf .leaf) .leaf)))) .leaf))))) (.seq .leaf .leaf)))))
/-- weir/weirref2.folded -/
def a95 : Ann := (.seq .leaf (.seq (.seq .leaf (.cond (.seq .leaf .leaf) .leaf)) (.seq .leaf .leaf)))
/-- gosem.cut.vars -/
def a117 : Ann := .leaf
end Go.Vc.S6
end
