import Derived.Test.YtopobapmncbjhaaVcF
namespace Go.Vc
set_option linter.unusedSimpArgs false
set_option linter.unusedVariables false
set_option autoImplicit false

theorem sliceBound_run (P : Program) (w : World) (k : IntKind) (i : Int) (y : Nat) (code : BoundsCode) (h0 : 0 ≤ i) (h1 : i ≤ y) : (Instr.sliceBound (.int k i) y code).run P w = .ok i.toNat w := by
  simp [Instr.sliceBound, asIntOf, h0, h1]

theorem evInt_sound {X : Tab} {s : St} {ρ : Operand → Value} (hρ : ∀ x v, s.ev x = some v → RelV X s (ρ x) v) {x : Option Operand} {r : Option Int} (h : s.evInt x = some r) :
    (x.map ρ = none ∧ r = none) ∨ ∃ k n, x.map ρ = some (.int k n) ∧ r = some n := by
  cases x with
  | none => simp [St.evInt] at h; exact .inl ⟨rfl, h.symm⟩
  | some x =>
    simp only [St.evInt] at h
    split at h
    · rename_i k n hx
      have := hρ x _ hx
      simp only [RelV, SV.enc] at this
      right
      exact ⟨k, n, by simp [this], by simpa using h.symm⟩
    · cases h

theorem sliceBounds_run {F : Nat → Nat → Nat → Prop} (isSlice : Bool) (len cap : Nat) {lo hi mx : Option Value} {l h m : Option Int}
    (hl : (lo = none ∧ l = none) ∨ ∃ k n, lo = some (.int k n) ∧ l = some n) (hh : (hi = none ∧ h = none) ∨ ∃ k n, hi = some (.int k n) ∧ h = some n)
    (hm : (mx = none ∧ m = none) ∨ ∃ k n, mx = some (.int k n) ∧ m = some n) (hF : sliceVC l h m len cap F) :
    ∃ a b c, F a b c ∧ ∀ P w, (Instr.sliceBounds isSlice len cap lo hi mx).run P w = .ok (a, b, c) w := by
  rcases hm with ⟨rfl, rfl⟩ | ⟨km, nm, rfl, rfl⟩ <;> rcases hh with ⟨rfl, rfl⟩ | ⟨kh, nh, rfl, rfl⟩ <;> rcases hl with ⟨rfl, rfl⟩ | ⟨kl, nl, rfl, rfl⟩ <;>
    simp only [sliceVC, Need_iff, Bool.and_eq_true, decide_eq_true_eq] at hF
  · exact ⟨_, _, _, hF, fun P w => by simp [Instr.sliceBounds]⟩
  · exact ⟨_, _, _, hF.2, fun P w => by simp [Instr.sliceBounds, sliceBound_run P w kl nl len _ hF.1.1 hF.1.2]⟩
  · exact ⟨_, _, _, hF.2, fun P w => by simp [Instr.sliceBounds, sliceBound_run P w kh nh cap _ hF.1.1 hF.1.2]⟩
  · exact ⟨_, _, _, hF.2, fun P w => by simp [Instr.sliceBounds, sliceBound_run P w kh nh cap _ hF.1.1.1 hF.1.1.2, sliceBound_run P w kl nl nh.toNat _ hF.1.2.1 hF.1.2.2]⟩
  · exact ⟨_, _, _, hF.2, fun P w => by simp [Instr.sliceBounds, sliceBound_run P w km nm cap _ hF.1.1.1 hF.1.1.2, sliceBound_run P w kh nh nm.toNat _ hF.1.2.1 hF.1.2.2]⟩
  · exact ⟨_, _, _, hF.2, fun P w => by simp [Instr.sliceBounds, sliceBound_run P w km nm cap _ hF.1.1.1.1 hF.1.1.1.2, sliceBound_run P w kh nh nm.toNat _ hF.1.1.2.1 hF.1.1.2.2, sliceBound_run P w kl nl nh.toNat _ hF.1.2.1 hF.1.2.2]⟩

theorem pickVC_sound {F : SV → Prop} : ∀ {l : List SV} {b j : Nat}, pickVC l b j F → b ≤ j → j < b + l.length → ∃ x, nth l (j - b) = some x ∧ F x
  | [], b, j, _, h1, h2 => by simp at h2; omega
  | x :: r, b, j, h, h1, h2 => by
    simp only [pickVC] at h
    by_cases e : j = b
    · subst e; exact ⟨x, by simp [nth], h.1 rfl⟩
    · obtain ⟨y, h3, h4⟩ := pickVC_sound h.2 (show b + 1 ≤ j by omega) (by simp at h2; omega)
      refine ⟨y, ?_, h4⟩
      have : j - b = (j - (b + 1)) + 1 := by omega
      rw [this]; simpa [nth] using h3

theorem fields_at {X : Tab} : ∀ {fs : List Field} {ts : List Ty} {off : Nat}, fieldsOK X fs ts off → ∀ {i : Nat} {t : Ty}, nth ts i = some t → ∃ f, fs[i]? = some f ∧ f.offset = off + Ty.off ts i ∧ X.T f.type = t
  | _, [], _, _, i, t, h => by simp [nth] at h
  | [], _ :: _, _, h, _, _, _ => by simp [fieldsOK] at h
  | f :: fs, u :: ts, off, h, 0, t, ht => by
    simp only [fieldsOK] at h
    simp [nth] at ht; subst ht
    exact ⟨f, rfl, by simp [Ty.off, h.1], h.2.1⟩
  | f :: fs, u :: ts, off, h, i + 1, t, ht => by
    simp only [fieldsOK] at h
    simp only [nth] at ht
    obtain ⟨g, h1, h2, h3⟩ := fields_at h.2.2.2 ht
    exact ⟨g, by simpa using h1, by simp only [Ty.off]; omega, h3⟩

/-- what an array's type is to the program -/
theorem arr_under {X : Tab} (ok : TabOK X) {t : Nat} (h : isArrTy (X.T t) = true) : ∃ e, X.P.underlying t = some (.array (lenTy (X.T t)) e) ∧ isData (X.T e) = true ∧ (0 < lenTy (X.T t) → elemTy (X.T t) = X.T e) := by
  have hT := ok.ty t
  cases h' : X.T t <;> rw [h'] at h hT <;> simp only [isArrTy] at h
  case arr k n =>
    simp only [tyOK] at hT
    obtain ⟨e, h1, h2⟩ := hT
    exact ⟨e, h1, by rw [h2]; rfl, fun _ => by rw [h2]; rfl⟩
  case struct b ts =>
    cases b with
    | false => simp at h
    | true =>
      simp only [tyOK] at hT
      obtain ⟨n, e, h1, h2, h3⟩ := hT
      subst h2
      refine ⟨e, by simpa [lenTy] using h1, h3, fun hp => ?_⟩
      cases n with
      | zero => simp [lenTy] at hp
      | succ n => simp [elemTy, List.replicate_succ]
  all_goals (simp at h)

theorem zeros_data : ∀ {ts : List Ty} {l : List SV}, Ty.zeros ts = some l → ∀ t ∈ ts, isData t = true
  | [], l, h => by simp
  | t :: r, l, h => by
    simp only [Ty.zeros] at h
    cases h1 : t.zero with
    | none => simp [h1] at h
    | some x =>
      cases h2 : Ty.zeros r with
      | none => simp [h1, h2] at h
      | some m =>
        intro u hu
        rcases List.mem_cons.1 hu with rfl | hu
        · cases u <;> first | rfl | simp [Ty.zero] at h1
        · exact zeros_data h2 u hu

theorem places_at {X : Tab} (ok : TabOK X) : ∀ {fs : List Field} {ts : List Ty} {off : Nat}, fieldsOK X fs ts off → (∀ t ∈ ts, isData t = true) →
    ∃ places, fs.mapM (fun f => (X.P.info? f.type).map fun i => (f.offset, i.size)) = some places ∧ ∀ i u, nth ts i = some u → places[i]? = some (off + Ty.off ts i, u.size)
  | [], [], off, _, _ => ⟨[], by simp, by simp [nth]⟩
  | [], _ :: _, _, h, _ => by simp [fieldsOK] at h
  | _ :: _, [], _, h, _ => by simp [fieldsOK] at h
  | f :: fs, t :: ts, off, h, hD => by
    simp only [fieldsOK] at h
    obtain ⟨h1, h2, h3, h4⟩ := h
    obtain ⟨ps, h5, h6⟩ := places_at ok h4 (fun u hu => hD u (by simp [hu]))
    obtain ⟨i, hi, hi1, _⟩ := ok.info f.type (by rw [h2]; exact hD t (by simp))
    refine ⟨(f.offset, i.size) :: ps, by simp [List.mapM_cons, hi, h5], ?_⟩
    intro j u hu
    cases j with
    | zero => simp [nth] at hu; subst hu; simp [Ty.off, h1, hi1, h2]
    | succ j =>
      simp only [nth] at hu
      have := h6 j u hu
      simp only [List.getElem?_cons_succ, this, Ty.off]
      congr 2; omega

section
variable {X : Tab} (ok : TabOK X) {s : St} {o : Oper} {ρ : Operand → Value} (hρ : ∀ x v, s.ev x = some v → RelV X s (ρ x) v) {F : SV → Prop}

/-- where a pointer into a local struct points -/
theorem lIs_path {id off : Nat} {p : List Nat} {t : Nat} {v : Value} (hv : RelV X s v (.lptr id off p)) (h : lIs X s id p t = true) :
    ∃ b bt c, s.bx id = some (.box b bt c) ∧ v = .pointer (some ⟨b, off, none⟩) ∧ PathAt (X.T bt) p off (X.T t) := by
  unfold lIs lAt at h
  split at h
  · rename_i u hu
    split at hu
    · rename_i b bt c hb
      obtain ⟨h1, u', h2⟩ := hv b bt c hb
      have e := path_ty h2
      rw [hu] at e
      obtain rfl : u = u' := by simpa using e
      have := Ty.same_eq h
      subst this
      exact ⟨b, bt, c, hb, h1, h2⟩
    · cases hu
  · cases h

/-- a pointer into a local struct comes from one -/
def LP (s : St) (sv : SV) : Prop := ∀ id off p, sv = .lptr id off p → ∃ x off' p', s.ev x = some (.lptr id off' p')

theorem fin (sv : SV) (hp : plain sv = true) (hF : F sv) (hr : ∀ w, (execOp ρ o).run X.P w = .ok (.value sv.enc) w) : ∃ v sv, RelV X s v sv ∧ F sv ∧ LP s sv ∧ ∀ w, (execOp ρ o).run X.P w = .ok (.value v) w :=
  ⟨sv.enc, sv, (relv_plain hp).2 rfl, hF, (fun id off p e => by subst e; simp [plain] at hp), hr⟩

include ok hρ in
theorem pure_sound (hl : isLoad o = false) (h : pureVC X s o F) : ∃ v sv, RelV X s v sv ∧ F sv ∧ LP s sv ∧ Yield X.P o ρ v := by
  unfold pureVC at h
  unfold Yield
  have ex := fun w => (rfl : (execOp ρ o).run X.P w = (execOp ρ o).run X.P w)
  cases hop : o.op <;> simp only [hop, isLoad] at h hl <;> try (cases hl) <;> try (cases h; done)
  case move x =>
    obtain ⟨v, h1, h2⟩ := ifSome_iff.1 h
    exact ⟨_, v, hρ x v h1, h2, (fun id off p e => ⟨x, off, p, by rw [h1, e]⟩), fun w => by simp [execOp, hop]⟩
  case assign x =>
    obtain ⟨v, h1, h2⟩ := ifSome_iff.1 h
    exact ⟨_, v, hρ x v h1, h2, (fun id off p e => ⟨x, off, p, by rw [h1, e]⟩), fun w => by simp [execOp, hop]⟩
  case pick c a b =>
    split at h
    · rename_i t hc
      have hc' := hρ c _ hc
      simp only [RelV, SV.enc] at hc'
      rw [Br_iff] at h
      cases t with
      | true =>
        obtain ⟨v, h1, h2⟩ := ifSome_iff.1 (h.1 rfl)
        exact ⟨_, v, hρ a v h1, h2, (fun id off p e => ⟨a, off, p, by rw [h1, e]⟩), fun w => by simp [execOp, hop, hc', asBool]⟩
      | false =>
        obtain ⟨v, h1, h2⟩ := ifSome_iff.1 (h.2 rfl)
        exact ⟨_, v, hρ b v h1, h2, (fun id off p e => ⟨b, off, p, by rw [h1, e]⟩), fun w => by simp [execOp, hop, hc', asBool]⟩
    · cases h
  case binOp op t x y yt =>
    split at h
    · rename_i a b ha hb
      obtain ⟨sv, hp, hF, hr⟩ := binVC_sound ok (x := x) (y := y) h (hρ x a ha) (hρ y b hb)
      exact fin sv hp hF (fun w => by simp only [execOp, hop]; rw [Sem.run_bind, hr w]; simp)
    · cases h
  case unOp op t x =>
    obtain ⟨a, ha, h⟩ := ifSome_iff.1 h
    have hx := hρ x a ha
    unfold unVC at h
    split at h
    · simp only [RelV, SV.enc] at hx
      exact fin _ rfl h (fun w => by simp [execOp, hop, hx, Op.unary, SV.enc])
    · simp only [RelV, SV.enc] at hx
      exact fin _ rfl h (fun w => by simp [execOp, hop, hx, Op.unary, Op.intArith, SV.enc, wr])
    · simp only [RelV, SV.enc] at hx
      exact fin _ rfl h (fun w => by simp [execOp, hop, hx, Op.unary, Op.intBits, SV.enc, ixor, ibits])
    · cases h
  case convert src dst x =>
    have h1 := ok.ty src
    have h2 := ok.ty dst
    split at h
    · rename_i k0 k k1 n e1 e2 e3
      rw [e1] at h1; rw [e2] at h2
      simp only [tyOK] at h1 h2
      have hx := hρ x _ e3
      simp only [RelV, SV.enc] at hx
      exact fin _ rfl h (fun w => by simp [execOp, hop, hx, convert, run_underlying h1, run_underlying h2, Conv.intToInt, SV.enc, wr])
    · rename_i b e1 e2 e3
      rw [e1] at h1; rw [e2] at h2
      simp only [tyOK] at h1 h2
      have hx := hρ x _ e3
      simp only [RelV, SV.enc] at hx
      exact fin _ rfl h (fun w => by simp [execOp, hop, hx, convert, run_underlying h1, run_underlying h2, SV.enc])
    · cases h
  case extract x i =>
    split at h
    · rename_i l hl
      obtain ⟨v, h1, h2⟩ := ifSome_iff.1 h
      split at h2
      · rename_i hp
        have hx := hρ x _ hl
        simp only [RelV, SV.enc] at hx
        rw [nth_eq] at h1
        exact fin v hp h2 (fun w => by simp [execOp, hop, hx, Instr.extract, encL_eq, h1])
      · cases h2
    · cases h
  case field t x f =>
    split at h
    · rename_i l hl
      have hx := hρ x _ hl
      simp only [RelV, SV.enc] at hx
      have hT := ok.ty t
      split at h
      · rename_i ts e1
        rw [e1] at hT
        simp only [tyOK] at hT
        obtain ⟨fs, h1, h2, _⟩ := hT
        split at h
        · rename_i hs
          obtain ⟨v, h3, h4⟩ := ifSome_iff.1 h
          obtain ⟨u, h5, h6, pre, post, h7, h8, _⟩ := nth_split hs h3
          obtain ⟨g, h9, h10, h11⟩ := fields_at h2 h5
          have hD : isData (X.T g.type) = true := by rw [h11]; cases u <;> first | rfl | (cases v <;> simp [SV.shape] at h6)
          refine fin v (shape_plain h6) h4 (fun w => ?_)
          have hg : fs[f]? = some g := by simpa using h9
          have := part_run ok g.type hD v (by rw [h11]; exact h6) pre post g.offset (by omega) w
          rw [← h7] at this
          simp [execOp, hop, hx, Instr.field, run_underlying h1, hg, asAgg, this]
        · cases h
      · cases h
    · cases h
  case index t x i =>
    split at h
    · rename_i k n f k' j e1 e2
      have hx := hρ x _ e1
      have hi := hρ i _ e2
      simp only [RelV, SV.enc] at hx hi
      split at h
      · rename_i hs
        simp only [Need_iff, Bool.and_eq_true, decide_eq_true_eq] at h
        obtain ⟨⟨h1, h2⟩, h3⟩ := h
        have hT := ok.ty t
        cases hT' : X.T t <;> rw [hT'] at hs hT <;> simp [SV.shape] at hs
        obtain ⟨hk, rfl⟩ := hs
        obtain rfl := ksame_eq hk
        simp only [tyOK] at hT
        obtain ⟨e, h4, h5⟩ := hT
        have hD : isData (X.T e) = true := by rw [h5]; rfl
        refine fin (.int k (f j.toNat)) rfl h3 (fun w => ?_)
        have hjn : j.toNat < n := by omega
        obtain ⟨y, hy, hys, pre, post, g1, g2, g3⟩ := path_get (c := .arr k n f) (t := .arr k n) (p := [j.toNat]) (off := j.toNat) (u := .int k) (by simp [SV.shape, ksame_refl]) ⟨hjn, rfl, rfl⟩
        simp [getPath] at hy
        subst hy
        have := part_run ok e hD (.int k (f j.toNat)) (by rw [h5]; simp [SV.shape, ksame_refl]) pre post j.toNat g2.symm w
        rw [← g1] at this
        simp only [SV.cells, SV.enc] at this
        simp [execOp, hop, hx, hi, Instr.index, asIntOf, run_underlying h4, h1, h2, sizeOf_run ok e hD, h5, Ty.size, this, SV.enc]
      · cases h
    · rename_i l k' j e1 e2
      have hx := hρ x _ e1
      have hi := hρ i _ e2
      simp only [RelV, SV.enc] at hx hi
      split at h
      · rename_i hs
        simp only [Bool.and_eq_true] at hs
        obtain ⟨e, h4, hD, h5⟩ := arr_under ok hs.1
        simp only [Need_iff, Bool.and_eq_true, decide_eq_true_eq] at h
        obtain ⟨⟨h1, h2⟩, h3⟩ := h
        obtain ⟨v, h6, h7⟩ := pickVC_sound h3 (Nat.zero_le _) (by omega)
        simp only [Nat.sub_zero] at h6
        have hsh := hs.2
        cases hT' : X.T t <;> rw [hT'] at hsh <;> simp [SV.shape] at hsh
        rename_i bb ts
        have hlen : lenTy (X.T t) = l.length := by rw [hT']; simp [lenTy, shapes_length hsh]
        obtain ⟨u, h8, h9, pre, post, h10, h11, _⟩ := nth_split hsh h6
        have hT := ok.ty t
        have hb : bb = true := by have := hs.1; rw [hT'] at this; simpa [isArrTy] using this
        subst hb
        rw [hT'] at hT
        simp only [tyOK] at hT
        obtain ⟨n', e', h12, h13, h14⟩ := hT
        rw [h4] at h12
        have hne : lenTy (X.T t) = n' ∧ e = e' := by simpa using h12
        obtain ⟨hn', rfl⟩ := hne
        have hj : j.toNat < n' := by omega
        rw [h13, nth_replicate _ _ _ hj] at h8
        obtain rfl : X.T e = u := by simpa using h8
        have hoff : pre.length = j.toNat * (X.T e).size := by rw [h11, h13, off_replicate _ _ _ (by omega)]
        refine fin v (shape_plain h9) h7 (fun w => ?_)
        have := part_run ok e hD v h9 pre post (j.toNat * (X.T e).size) hoff.symm w
        rw [← h10] at this
        have h2' : j < (lenTy (X.T t) : Int) := by rw [hlen]; exact h2
        simp [execOp, hop, hx, hi, Instr.index, asIntOf, run_underlying h4, h1, h2', sizeOf_run ok e hD, this]
      · cases h
    · rename_i b k' j e1 e2
      have hx := hρ x _ e1
      have hi := hρ i _ e2
      simp only [RelV, SV.enc] at hx hi
      split at h
      · rename_i e3
        have hT := ok.ty t
        rw [e3] at hT
        simp only [tyOK] at hT
        simp only [Need_iff, Bool.and_eq_true, decide_eq_true_eq] at h
        obtain ⟨⟨h1, h2⟩, h3⟩ := h
        refine fin _ rfl h3 (fun w => ?_)
        have hlt : j.toNat < b.size := by omega
        simp [execOp, hop, hx, hi, Instr.index, asIntOf, run_underlying hT, h1, SV.enc, sget, hlt, getElem?_pos b j.toNat hlt]
        rfl
      · cases h
    · cases h
  case fieldAddr t x f =>
    have hT := ok.ty t
    split at h
    · rename_i ts e1
      rw [e1] at hT
      simp only [tyOK] at hT
      obtain ⟨fs, h1, h2, _⟩ := hT
      split at h
      · rename_i u hu
        obtain ⟨g, h3, h4, h5⟩ := fields_at h2 hu
        have hg : fs[f]? = some g := by simpa using h3
        split at h
        · cases h
        · rename_i hz
          simp only [Bool.and_eq_true, Bool.not_eq_true'] at hz
          have hz' := nbeq_false.1 hz.2
          have hD : isData (X.T g.type) = true := by rw [h5]; exact hz.1
          split at h
          · rename_i id off p e2
            have hx := hρ x _ e2
            split at h
            · rename_i hl
              obtain ⟨b, bt, c, h6, h7, h8⟩ := lIs_path hx hl
              have hpath := path_snoc (by rw [e1] at h8; exact h8) hu
              refine ⟨.pointer (some ⟨b, off + Ty.off ts f, none⟩), _, ?_, h, (fun id' off' p' e => ⟨x, off, p, by cases e; exact e2⟩), fun w => ?_⟩
              · intro b' t' c' hb'
                rw [h6] at hb'
                cases hb'
                exact ⟨rfl, _, hpath⟩
              · simp [execOp, hop, h7, Instr.fieldAt, run_underlying h1, hg, Instr.sureAddr, fieldPlace, sizeOf_run ok g.type hD, h5, hz', h4, Addr.add]
                try (intro h0; simp [h0])
            · cases h
          · rename_i p e2
            have hx := hρ x _ e2
            simp only [RelV, SV.enc] at hx
            obtain ⟨a, rfl, h⟩ := deref_iff.1 h
            refine fin _ rfl h (fun w => ?_)
            simp [execOp, hop, hx, Instr.fieldAt, run_underlying h1, hg, Instr.sureAddr, fieldPlace, sizeOf_run ok g.type hD, h5, hz', h4, SV.enc, ad_eq]
          · cases h
      · cases h
    · cases h
  case indexAddr t x i =>
    split at h
    · rename_i e q k j e1 e2 e3
      split at h
      case h_2 => cases h
      rename_i hD
      have hT := ok.ty t
      rw [e1] at hT
      simp only [tyOK] at hT
      have hx := hρ x _ e2
      have hi := hρ i _ e3
      simp only [RelV, SV.enc, Sl.val] at hx hi
      simp only [Need_iff, Bool.and_eq_true, decide_eq_true_eq] at h
      obtain ⟨⟨⟨h1, h2⟩, h3⟩, h4⟩ := h
      obtain ⟨ptr, len, cap⟩ := q
      simp only at h2 h3 hx
      obtain ⟨a, rfl⟩ := Option.isSome_iff_exists.1 h3
      refine fin _ rfl h4 (fun w => ?_)
      simp [execOp, hop, hx, hi, Instr.indexAt, asIntOf, run_underlying hT, h1, h2, sizeOf_run ok e hD, SV.enc, Sl.at]
    · rename_i ty id off p k j e2 e3
      have hx := hρ x _ e2
      have hi := hρ i _ e3
      simp only [RelV, SV.enc] at hi
      split at h
      · rename_i hh
        simp only [Bool.and_eq_true] at hh
        obtain ⟨ha, hl⟩ := hh
        obtain ⟨b, bt, c, h6, h7, h8⟩ := lIs_path hx hl
        obtain ⟨e, h9, hD, h10⟩ := arr_under ok ha
        simp only [Need_iff, Bool.and_eq_true, decide_eq_true_eq] at h
        obtain ⟨⟨h1, h2⟩, h4⟩ := h
        have hlt : j.toNat < lenTy (X.T t) := by omega
        have hel := h10 (by omega)
        refine ⟨.pointer (some ⟨b, off + j.toNat * (elemTy (X.T t)).size, none⟩), _, ?_, h4, (fun id' off' p' e => ⟨x, off, p, by cases e; exact e2⟩), fun w => ?_⟩
        · intro b' t' c' hb'
          rw [h6] at hb'
          cases hb'
          refine ⟨rfl, ?_⟩
          have hT := ok.ty t
          cases hT' : X.T t <;> rw [hT'] at ha h8 hlt hT hel <;> simp only [isArrTy] at ha
          case arr k n => exact ⟨_, by simpa [elemTy, Ty.size] using path_snoc_arr h8 (by simpa [lenTy] using hlt)⟩
          case struct bb ts =>
            subst ha
            simp only [tyOK] at hT
            obtain ⟨n', e', h12, h13, h14⟩ := hT
            have hn : j.toNat < n' := by simpa [lenTy, h13] using hlt
            have := path_snoc h8 (i := j.toNat) (u := X.T e') (by rw [h13]; exact nth_replicate _ _ _ hn)
            have he : elemTy (Ty.struct true ts) = X.T e' := by
              rw [h13]; cases n' with
              | zero => omega
              | succ m => simp [List.replicate_succ, elemTy]
            rw [he]
            rw [h13, off_replicate _ _ _ (by omega)] at this
            exact ⟨_, this⟩
          all_goals (cases ha)
        · simp [execOp, hop, h7, hi, Instr.indexAt, asIntOf, run_underlying h9, Instr.sureAddr, h1, h2, sizeOf_run ok e hD, hel, Addr.add]
          try (intro h0; simp [h0])
      · cases h
    · rename_i ty p k j e2 e3
      have hx := hρ x _ e2
      have hi := hρ i _ e3
      simp only [RelV, SV.enc] at hi hx
      split at h
      · rename_i ha
        obtain ⟨a, rfl, h⟩ := deref_iff.1 h
        obtain ⟨e, h9, hD, h10⟩ := arr_under ok ha
        simp only [Need_iff, Bool.and_eq_true, decide_eq_true_eq] at h
        obtain ⟨⟨h1, h2⟩, h4⟩ := h
        have hel := h10 (by omega)
        refine fin _ rfl h4 (fun w => ?_)
        simp [execOp, hop, hx, hi, Instr.indexAt, asIntOf, run_underlying h9, Instr.sureAddr, h1, h2, sizeOf_run ok e hD, hel, SV.enc]
      · cases h
    · cases h
  case slice t x lo hi mx =>
    split at h
    · rename_i l hh m q e1 e2 e3 e4
      have hx := hρ x _ e4
      simp only [RelV, SV.enc, Sl.val] at hx
      split at h
      · rename_i e e5
        have hT := ok.ty t
        rw [e5] at hT
        simp only [tyOK] at hT
        split at h
        · rename_i hD
          obtain ⟨a, b, c, hF, hr⟩ := sliceBounds_run true q.len q.cap (evInt_sound hρ e1) (evInt_sound hρ e2) (evInt_sound hρ e3) h
          refine fin _ rfl hF (fun w => ?_)
          simp [execOp, hop, hx, Instr.sliceAt, Instr.slice, run_underlying hT, hr, sizeOf_run ok e hD, SV.enc, Sl.val, Sl.sub]
        · cases h
      · cases h
    · rename_i l hh b e1 e2 e3 e4
      have hx := hρ x _ e4
      simp only [RelV, SV.enc] at hx
      split at h
      · rename_i e5
        have hT := ok.ty t
        rw [e5] at hT
        simp only [tyOK] at hT
        obtain ⟨a, b', c, hF, hr⟩ := sliceBounds_run false b.size b.size (evInt_sound hρ e1) (evInt_sound hρ e2) (.inl ⟨rfl, rfl⟩) h
        have hmx : mx.map ρ = none := by
          rcases evInt_sound hρ e3 with ⟨h1, _⟩ | ⟨_, _, _, h2⟩
          · exact h1
          · cases h2
        refine fin _ rfl hF (fun w => ?_)
        simp [execOp, hop, hx, hmx, Instr.sliceAt, Instr.slice, run_underlying hT, hr, SV.enc]
      · cases h
    · rename_i l hh m p e1 e2 e3 e4
      have hx := hρ x _ e4
      simp only [RelV, SV.enc] at hx
      split at h
      · rename_i ha
        simp only [Bool.and_eq_true] at ha
        obtain ⟨a, rfl, hd⟩ := deref_iff.1 h
        obtain ⟨e, h9, hD, h10⟩ := arr_under ok ha.1
        have h0 : 0 < lenTy (X.T t) := by simpa [Nat.blt_eq] using ha.2
        obtain ⟨a', b, c, hF, hr⟩ := sliceBounds_run false (lenTy (X.T t)) (lenTy (X.T t)) (evInt_sound hρ e1) (evInt_sound hρ e2) (evInt_sound hρ e3) hd
        refine fin _ (by rfl) hF (fun w => ?_)
        simp [execOp, hop, hx, Instr.sliceAt, run_underlying h9, Instr.sureAddr, hr, sizeOf_run ok e hD, SV.enc, Sl.val, Sl.sub, h10 h0]
        split <;> simp
      · cases h
    · cases h
  case sliceToArrayPointer t x =>
    split at h
    · rename_i q ha hx
      have hx := hρ x _ hx
      simp only [RelV, SV.enc, Sl.val] at hx
      obtain ⟨e, h9, hD, h10⟩ := arr_under ok ha
      simp only [Need_iff, Bool.and_eq_true, decide_eq_true_eq] at h
      obtain ⟨⟨h1, h2⟩, h3⟩ := h
      obtain ⟨ptr, len, cap⟩ := q
      obtain ⟨a, rfl⟩ := Option.isSome_iff_exists.1 h2
      refine fin _ rfl h3 (fun w => ?_)
      simp [execOp, hop, hx, Instr.arrayAt, run_underlying h9, Nat.not_lt.2 h1, SV.enc, Sl.at, Addr.add]
    · cases h
  case build t parts =>
    split at h
    · rename_i z l hag hz hl
      obtain ⟨c, hc, hF⟩ := ifSome_iff.1 h
      have hzs := zero_shape hz
      have hpl := evParts_sound hρ hl (buildSV_plain hc)
      have hD : isData (X.T t) = true := by cases hT : X.T t <;> rw [hT] at hz <;> first | rfl | simp [Ty.zero] at hz
      obtain ⟨i, hi, hi1, hi2, hi3⟩ := ok.info t hD
      have hzero := hi3 z hz
      have hT := ok.ty t
      have built : ∀ c, c.shape (X.T t) = true → X.P.built t (l.map fun p => (p.1, p.2.enc)) = some c.cells.toArray → F c → ∃ v sv, RelV X s v sv ∧ F sv ∧ LP s sv ∧ ∀ w, (execOp ρ o).run X.P w = .ok (.value v) w := by
        intro c hcs hb hF
        refine fin c (shape_plain hcs) hF (fun w => ?_)
        have hm : (parts.map fun (p : Nat × Operand) => (p.1, ρ p.2)).toList = l.map fun p => (p.1, p.2.enc) := by rw [← hpl]; simp
        have := run_build (P := X.P) w t (parts.map fun (p : Nat × Operand) => (p.1, ρ p.2)) c.cells.toArray (by rw [hm]; exact hb)
        rw [enc_agg hcs hag]
        simp [execOp, hop, this]
      cases hT' : X.T t <;> rw [hT'] at hT hc hz hzs
      case arr k n =>
        simp only [tyOK] at hT
        obtain ⟨e, h1, h2⟩ := hT
        have hDe : isData (X.T e) = true := by rw [h2]; rfl
        obtain ⟨ie, hie, hie1, _⟩ := ok.info e hDe
        obtain ⟨hcs, hfill⟩ := fill_sound (place := fun i => some (i * ie.size, ie.size)) (t := .arr k n) (by
          intro i u hu
          simp only [partTy] at hu
          split at hu
          · obtain rfl : Ty.int k = u := by simpa using hu
            simp [placeOff, Ty.size, hie1, h2]
          · cases hu) hzs hc
        refine built c (by rw [hT']; exact hcs) ?_ hF
        simp only [Program.built, hi, h1, hzero, hie, enc_cells hzs, hfill]
      case struct b ts =>
        have hzd : ∀ u ∈ ts, isData u = true := by
          simp only [Ty.zero] at hz
          cases hzz : Ty.zeros ts with
          | none => simp [hzz] at hz
          | some l' => exact zeros_data hzz
        cases b with
        | true =>
          simp only [tyOK] at hT
          obtain ⟨n, e, h1, h2, h3⟩ := hT
          obtain ⟨ie, hie, hie1, _⟩ := ok.info e h3
          obtain ⟨hcs, hfill⟩ := fill_sound (place := fun i => some (i * ie.size, ie.size)) (t := .struct true ts) (by
            intro i u hu
            simp only [partTy, h2] at hu
            have hin : i < n := by
              rw [nth_eq] at hu
              have := (List.getElem?_eq_some_iff.1 hu).1
              simpa using this
            rw [nth_replicate _ _ _ hin] at hu
            obtain rfl : X.T e = u := by simpa using hu
            simp [placeOff, h2, off_replicate _ _ _ (Nat.le_of_lt hin), hie1]) hzs hc
          refine built c (by rw [hT']; exact hcs) ?_ hF
          simp only [Program.built, hi, h1, hzero, hie, enc_cells hzs, hfill]
        | false =>
          simp only [tyOK] at hT
          obtain ⟨fs, h1, h2, h3⟩ := hT
          obtain ⟨places, h4, h5⟩ := places_at ok h2 hzd
          obtain ⟨hcs, hfill⟩ := fill_sound (place := (places.toArray[·]?)) (t := .struct false ts) (by
            intro i u hu
            simp only [partTy] at hu
            have := h5 i u hu
            simpa [placeOff] using this) hzs hc
          refine built c (by rw [hT']; exact hcs) ?_ hF
          simp only [Program.built, hi, h1, hzero, h4, enc_cells hzs, hfill]
      all_goals (rw [hT'] at hag; cases hag)
    · cases h
  case nilCheck x =>
    split at h
    · rename_i p hp
      have hx := hρ x _ hp
      simp only [RelV, SV.enc] at hx
      obtain ⟨a, rfl, h⟩ := deref_iff.1 h
      exact fin _ rfl h (fun w => by simp [execOp, hop, hx, SV.enc])
    · rename_i id off p hp
      have hx := hρ x _ hp
      split at h
      · rename_i u hu
        unfold lAt at hu
        split at hu
        · rename_i b bt c hb
          have := (hx b bt c hb).1
          exact ⟨_, _, hx, h, (fun id' off' p' e => ⟨x, off, p, by cases e; exact hp⟩), fun w => by simp [execOp, hop, this]⟩
        · cases hu
      · cases h
    · rename_i f cs hp
      have hx := hρ x _ hp
      simp only [RelV, SV.enc] at hx
      exact fin _ rfl h (fun w => by simp [execOp, hop, hx, SV.enc])
    · cases h
  case makeFunc fn first cap =>
    cases fn <;> simp only at h
    rename_i f
    split at h
    · rename_i l h1 h2
      split at h
      · rename_i hp
        have hc := evs_sound hρ h2 hp
        have hf : first = #[] := by simpa using h1
        refine fin _ rfl h (fun w => ?_)
        have hcap : cap.map ρ = (SV.encL l).toArray := by rw [← hc]; apply Array.ext'; simp
        simp [execOp, hop, Instr.makeFunc, SV.enc, hf, hcap]
      · cases h
    · cases h
  case call c =>
    obtain ⟨callee, args, argTypes⟩ := c
    split at h
    · rename_i t x hc ht hx
      simp only at hc ht hx
      have ha : args = #[x] := by apply Array.ext'; simpa using hx
      have hb : argTypes = #[t] := by apply Array.ext'; simpa using ht
      subst hc; subst ha; subst hb
      have hT := ok.ty t
      split at h
      · rename_i e q e1 e2
        rw [e1] at hT
        simp only [tyOK] at hT
        have hx := hρ x _ e2
        simp only [RelV, SV.enc, Sl.val] at hx
        exact fin _ rfl h (fun w => by simp [execOp, hop, resolve, invoke, builtin, Builtin.len_, hx, run_underlying hT, goInt, SV.enc])
      · rename_i b e1 e2
        rw [e1] at hT
        simp only [tyOK] at hT
        have hx := hρ x _ e2
        simp only [RelV, SV.enc] at hx
        exact fin _ rfl h (fun w => by simp [execOp, hop, resolve, invoke, builtin, Builtin.len_, hx, run_underlying hT, goInt, SV.enc])
      · rename_i k n e1
        rw [e1] at hT
        simp only [tyOK] at hT
        obtain ⟨e, hT, _⟩ := hT
        exact fin _ rfl h (fun w => by simp [execOp, hop, resolve, invoke, builtin, Builtin.len_, run_underlying hT, goInt, SV.enc])
      · cases h
    · rename_i t x hc ht hx
      simp only at hc ht hx
      have ha : args = #[x] := by apply Array.ext'; simpa using hx
      have hb : argTypes = #[t] := by apply Array.ext'; simpa using ht
      subst hc; subst ha; subst hb
      have hT := ok.ty t
      split at h
      · rename_i e q e1 e2
        rw [e1] at hT
        simp only [tyOK] at hT
        have hx := hρ x _ e2
        simp only [RelV, SV.enc, Sl.val] at hx
        exact fin _ rfl h (fun w => by simp [execOp, hop, resolve, invoke, builtin, Builtin.cap_, hx, run_underlying hT, goInt, SV.enc])
      · cases h
    · rename_i x y hc hx
      simp only at hc hx
      have ha : args = #[x, y] := by apply Array.ext'; simpa using hx
      subst hc; subst ha
      split at h
      · rename_i k a k' b e1 e2
        have h1 := hρ x _ e1
        have h2 := hρ y _ e2
        simp only [RelV, SV.enc] at h1 h2
        exact fin _ rfl h (fun w => by simp [execOp, hop, resolve, invoke, builtin, Builtin.min_, Builtin.min2, h1, h2, SV.enc, imin])
      · cases h
    · rename_i x y hc hx
      simp only at hc hx
      have ha : args = #[x, y] := by apply Array.ext'; simpa using hx
      subst hc; subst ha
      split at h
      · rename_i k a k' b e1 e2
        have h1 := hρ x _ e1
        have h2 := hρ y _ e2
        simp only [RelV, SV.enc] at h1 h2
        exact fin _ rfl h (fun w => by simp [execOp, hop, resolve, invoke, builtin, Builtin.max_, Builtin.max2, h1, h2, SV.enc, imax])
      · cases h
    · cases h
end
end Go.Vc
