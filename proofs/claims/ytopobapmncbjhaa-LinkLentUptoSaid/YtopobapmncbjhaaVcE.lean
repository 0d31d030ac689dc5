import Derived.Test.YtopobapmncbjhaaVcD
namespace Go.Vc
set_option linter.unusedSimpArgs false
set_option linter.unusedVariables false
set_option autoImplicit false

/-- what an operation yields in whatever world -/
def Yield (P : Program) (o : Oper) (ρ : Operand → Value) (v : Value) : Prop := ∀ w, (execOp ρ o).run P w = .ok (.value v) w

section
variable {X : Tab} (ok : TabOK X) {s : St} {o : Oper} {ρ : Operand → Value} (hρ : ∀ x v, s.ev x = some v → RelV X s (ρ x) v) {F : SV → Prop}

theorem intVC_sound {op : BinOp} {k : IntKind} {a b : Int} (h : intVC op k a b F) (hop : op ≠ .shl ∧ op ≠ .shr) :
    ∃ sv, plain sv = true ∧ F sv ∧ ∀ t P w, (binOp op t (.int k a) (.int k b)).run P w = .ok sv.enc w := by
  cases op <;> simp only [intVC, Need_iff] at h <;> simp only [ne_eq, not_true_eq_false, false_and, and_false] at hop
  case add => exact ⟨_, rfl, h, fun t P w => by simp [binOp, Op.intArith, SV.enc, wr]⟩
  case sub => exact ⟨_, rfl, h, fun t P w => by simp [binOp, Op.intArith, SV.enc, wr]⟩
  case mul => exact ⟨_, rfl, h, fun t P w => by simp [binOp, Op.intArith, SV.enc, wr]⟩
  case quo => exact ⟨_, rfl, h.2, fun t P w => by have := h.1; simp at this; simp [binOp, Op.intDiv, SV.enc, wr, this]⟩
  case rem => exact ⟨_, rfl, h.2, fun t P w => by have := h.1; simp at this; simp [binOp, Op.intDiv, SV.enc, wr, this]⟩
  case and => exact ⟨_, rfl, h, fun t P w => by simp [binOp, Op.intBits, SV.enc, iand, ibits]⟩
  case or => exact ⟨_, rfl, h, fun t P w => by simp [binOp, Op.intBits, SV.enc, ior, ibits]⟩
  case xor => exact ⟨_, rfl, h, fun t P w => by simp [binOp, Op.intBits, SV.enc, ixor, ibits]⟩
  case andNot => exact ⟨_, rfl, h, fun t P w => by simp [binOp, Op.intBits, SV.enc, iandnot, ibits]⟩
  case eql => exact ⟨_, rfl, h, fun t P w => by simp [binOp, Op.intCmp, SV.enc]⟩
  case neq => exact ⟨_, rfl, h, fun t P w => by simp [binOp, Op.intCmp, SV.enc]⟩
  case lss => exact ⟨_, rfl, h, fun t P w => by simp [binOp, Op.intCmp, SV.enc]⟩
  case leq => exact ⟨_, rfl, h, fun t P w => by simp [binOp, Op.intCmp, SV.enc]⟩
  case gtr => exact ⟨_, rfl, h, fun t P w => by simp [binOp, Op.intCmp, SV.enc]⟩
  case geq => exact ⟨_, rfl, h, fun t P w => by simp [binOp, Op.intCmp, SV.enc]⟩

theorem equalIn_bool (P : Program) (w : World) (d t : Nat) (a b : Bool) (h : P.underlying t = some .bool) : (Op.equalIn (d + 1) t (.bool a) (.bool b)).run P w = .ok (a == b) w := run_equalIn_bool w d t a b h
theorem equalIn_ptr_nil (P : Program) (w : World) (d t e : Nat) (p : Option Addr) (h : P.underlying t = some (.pointer e)) : (Op.equalIn (d + 1) t (.pointer p) (.pointer none)).run P w = .ok p.isNone w := by
  cases p <;> simp [Op.equalIn, run_underlying h]
theorem equalIn_slice_nil (P : Program) (w : World) (d t e : Nat) (p : Option Addr) (l c : Nat) (h : P.underlying t = some (.slice e)) : (Op.equalIn (d + 1) t (.slice p l c) (.slice none 0 0)).run P w = .ok p.isNone w := by
  cases p <;> simp [Op.equalIn, run_underlying h]
theorem eql_of (P : Program) (t : Nat) (x y : Value) (b : Bool) (hx : ∀ w, (Op.equalIn (9999 + 1) t x y).run P w = .ok b w)
    (h1 : binOp .eql t x y = (do pure (.bool (← Op.equal t x y)))) (h2 : binOp .neq t x y = (do pure (.bool (!(← Op.equal t x y))))) (w : World) :
    (binOp .eql t x y).run P w = .ok (.bool b) w ∧ (binOp .neq t x y).run P w = .ok (.bool (!b)) w := by
  have e : (Op.equal t x y).run P w = .ok b w := by unfold Op.equal Op.maxDepth; exact hx w
  rw [h1, h2]
  simp [e]
theorem eqGuard_int (op : BinOp) (t : Nat) (x y : Operand) (k k' : IntKind) (a b : Int) (P : Program) (w : World) : (eqGuard op t x y (.int k a) (.int k' b)).run P w = .ok () w := by
  cases op <;> simp [eqGuard]

include ok in
theorem eqVC_sound {op : BinOp} {t : Nat} {a b : SV} {x y : Operand} (h : eqVC X t op a b F) :
    ∃ sv, plain sv = true ∧ F sv ∧ ∀ w, ((do eqGuard op t x y a.enc b.enc; binOp op t a.enc b.enc : Sem Value)).run X.P w = .ok sv.enc w := by
  unfold eqVC at h
  cases hc : (X.T t).cmp && Nat.ble (X.T t).depth 50 && a.shape (X.T t) && b.shape (X.T t) with
  | false => simp [hc] at h
  | true =>
    rw [hc] at h
    simp only [Bool.and_eq_true] at hc
    obtain ⟨⟨⟨hcmp, hd⟩, ha⟩, hb⟩ := hc
    have hd' := Nat.le_of_ble_eq_true hd
    have hD : isData (X.T t) = true := by cases hT : X.T t <;> rw [hT] at hcmp <;> simp [Ty.cmp] at hcmp <;> rfl
    have he := eq_run ok 10000 t a b hcmp (by omega) ha hb hD
    have hg := ok.eqg t hcmp
    have key : (op = .eql ∨ op = .neq) → ∀ w, ((do eqGuard op t x y a.enc b.enc; binOp op t a.enc b.enc : Sem Value)).run X.P w =
        .ok (.bool (match op with | .eql => eqSV a b | _ => !eqSV a b)) w := by
      intro hop w
      have hT' := ok.ty t
      cases hT : X.T t <;> rw [hT] at ha hb hT' hcmp <;> simp only [tyOK] at hT'
      case int k =>
        cases a <;> simp [SV.shape] at ha
        cases b <;> simp [SV.shape] at hb
        obtain rfl := ksame_eq ha
        obtain rfl := ksame_eq hb
        rcases hop with rfl | rfl <;> simp [SV.enc, eqGuard, binOp, Op.intCmp, eqSV] <;> rfl
      case bool =>
        cases a <;> simp [SV.shape] at ha
        cases b <;> simp [SV.shape] at hb
        rename_i a b
        have he := eql_of X.P t (.bool a) (.bool b) (a == b) (fun w => equalIn_bool X.P w 9999 t a b hT') rfl rfl w
        rcases hop with rfl | rfl <;> simp [SV.enc, eqGuard, he.1, he.2, eqSV]
      case str =>
        cases a <;> simp [SV.shape] at ha
        cases b <;> simp [SV.shape] at hb
        rcases hop with rfl | rfl <;> simp [SV.enc, eqGuard, binOp, Op.stringOp, eqSV, beq_toListBytes]
      case arr k n =>
        have e1 := enc_agg (t := .arr k n) ha rfl
        have e2 := enc_agg (t := .arr k n) hb rfl
        have he' := he w
        rw [e1, e2] at *
        rcases hop with rfl | rfl
        · rw [Sem.run_bind, run_eqGuard_agg w _ _ _ _ _ _ hg]; simp only [Result.andThen_ok]; rw [run_eql_struct, he']; simp
        · rw [Sem.run_bind, run_eqGuard_agg w _ _ _ _ _ _ hg]; simp only [Result.andThen_ok]; rw [run_neq_struct, he']; simp
      case struct c ts =>
        have e1 := enc_agg (t := .struct c ts) ha rfl
        have e2 := enc_agg (t := .struct c ts) hb rfl
        have he' := he w
        rw [e1, e2] at *
        rcases hop with rfl | rfl
        · rw [Sem.run_bind, run_eqGuard_agg w _ _ _ _ _ _ hg]; simp only [Result.andThen_ok]; rw [run_eql_struct, he']; simp
        · rw [Sem.run_bind, run_eqGuard_agg w _ _ _ _ _ _ hg]; simp only [Result.andThen_ok]; rw [run_neq_struct, he']; simp
      all_goals (simp [Ty.cmp] at hcmp)
    cases op <;> simp only at h
    case eql => exact ⟨_, rfl, h, fun w => by simpa [SV.enc] using key (.inl rfl) w⟩
    case neq => exact ⟨_, rfl, h, fun w => by simpa [SV.enc] using key (.inr rfl) w⟩

theorem nilVC_sound {op : BinOp} {b : Bool} (h : nilVC op b F) : (op = .eql ∧ F (.bool b)) ∨ (op = .neq ∧ F (.bool (!b))) := by
  cases op <;> simp only [nilVC] at h <;> simp [h]

include ok in
theorem binVC_sound {op : BinOp} {t : Nat} {a b : SV} {x y : Operand} {va vb : Value} (h : binVC X op t a b F) (ha : RelV X s va a) (hb : RelV X s vb b) :
    ∃ sv, plain sv = true ∧ F sv ∧ ∀ w, ((do eqGuard op t x y va vb; binOp op t va vb : Sem Value)).run X.P w = .ok sv.enc w := by
  unfold binVC at h
  split at h
  · rename_i k m k' n
    simp only [RelV, SV.enc] at ha hb
    subst ha; subst hb
    simp only [Sem.run_bind, eqGuard_int, Result.andThen_ok]
    split at h
    · rw [Need_iff] at h
      exact ⟨_, rfl, h.2, fun w => by have := h.1; simp at this; simp [binOp, Op.shift, SV.enc, gshl, Int.not_lt.2 this]⟩
    · rw [Need_iff] at h
      exact ⟨_, rfl, h.2, fun w => by have := h.1; simp at this; simp [binOp, Op.shift, SV.enc, gshr, Int.not_lt.2 this]⟩
    · rename_i h1 h2
      split at h
      · rename_i hk
        obtain rfl := ksame_eq hk
        obtain ⟨sv, p, f, r⟩ := intVC_sound h ⟨h1, h2⟩
        exact ⟨sv, p, f, fun w => r t X.P w⟩
      · cases h
  · rename_i m n
    simp only [RelV, SV.enc] at ha hb
    subst ha; subst hb
    cases op <;> simp only [strVC] at h
    · exact ⟨_, rfl, h, fun w => by simp [eqGuard, binOp, Op.stringOp, SV.enc, beq_toListBytes]⟩
    · exact ⟨_, rfl, h, fun w => by simp [eqGuard, binOp, Op.stringOp, SV.enc, beq_toListBytes]⟩
  · rename_i p
    simp only [RelV, SV.enc] at ha hb
    subst ha; subst hb
    have hT := ok.ty t
    split at h
    · rename_i e he
      rw [he] at hT
      simp only [tyOK] at hT
      have he := eql_of X.P t (.pointer p) (.pointer none) p.isNone (fun w => equalIn_ptr_nil X.P w 9999 t e p hT) rfl rfl
      rcases nilVC_sound h with ⟨rfl, hF⟩ | ⟨rfl, hF⟩
      · exact ⟨_, rfl, hF, fun w => by simp [eqGuard, (he w).1, SV.enc]⟩
      · exact ⟨_, rfl, hF, fun w => by simp [eqGuard, (he w).2, SV.enc]⟩
    · cases h
  · rename_i q r
    simp only [RelV, SV.enc, Sl.val] at ha hb
    subst ha; subst hb
    have hT := ok.ty t
    split at h
    · rename_i hc
      simp only [Bool.and_eq_true] at hc
      obtain ⟨rp, rl, rc⟩ := r
      have hr : rp = none ∧ rl = 0 ∧ rc = 0 := by
        have := hc.2
        unfold Sl.isNil at this
        cases rp with
        | none => simp at this; exact ⟨rfl, this⟩
        | some _ => cases this
      obtain ⟨rfl, rfl, rfl⟩ := hr
      have hs := hc.1
      cases hTT : X.T t <;> rw [hTT] at hs hT <;> try (cases hs; done)
      rename_i e
      simp only [tyOK] at hT
      obtain ⟨p, l, c⟩ := q
      have he := eql_of X.P t (.slice p l c) (.slice none 0 0) p.isNone (fun w => equalIn_slice_nil X.P w 9999 t e p l c hT) rfl rfl
      rcases nilVC_sound h with ⟨rfl, hF⟩ | ⟨rfl, hF⟩
      · exact ⟨_, rfl, hF, fun w => by simp [eqGuard, (he w).1, SV.enc]⟩
      · exact ⟨_, rfl, hF, fun w => by simp [eqGuard, (he w).2, SV.enc]⟩
    · cases h
  · have hsh : a.shape (X.T t) = true ∧ b.shape (X.T t) = true := by
      unfold eqVC at h
      split at h
      · rename_i hc; simp only [Bool.and_eq_true] at hc; exact ⟨hc.1.2, hc.2⟩
      · cases h
    rw [relv_shape hsh.1] at ha
    rw [relv_shape hsh.2] at hb
    subst ha; subst hb
    exact eqVC_sound ok h
end
end Go.Vc
