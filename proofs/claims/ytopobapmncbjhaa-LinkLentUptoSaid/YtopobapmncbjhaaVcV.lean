import Derived.Test.YtopobapmncbjhaaVcU
namespace Go.Vc
set_option linter.unusedSimpArgs false
set_option linter.unusedVariables false
set_option autoImplicit false

/-! ### the table of types is right: what the kernel counts -/
def sameCell : Value → Value → Bool
  | .int k n, .int k' n' => ksame k k' && decide (n = n')
  | .bool true, .bool true => true
  | .bool false, .bool false => true
  | .string s, .string s' => (match s, s' with | ⟨⟨[]⟩⟩, ⟨⟨[]⟩⟩ => true | _, _ => false)
  | .pointer none, .pointer none => true
  | .slice none n c, .slice none n' c' => Nat.beq n n' && Nat.beq c c'
  | .map none, .map none => true
  | _, _ => false
def sameCells : List Value → List Value → Bool
  | [], [] => true
  | x :: r, y :: s => sameCell x y && sameCells r s
  | _, _ => false

theorem sameCell_eq {a b : Value} (h : sameCell a b = true) : a = b := by
  unfold sameCell at h
  split at h
  · simp only [Bool.and_eq_true, decide_eq_true_eq] at h
    rw [ksame_eq h.1, h.2]
  · rfl
  · rfl
  · split at h
    · rfl
    · cases h
  · rfl
  · simp only [Bool.and_eq_true] at h
    rw [nbeq.1 h.1, nbeq.1 h.2]
  · rfl
  · cases h
theorem sameCells_eq : ∀ {a b : List Value}, sameCells a b = true → a = b
  | [], [], _ => rfl
  | [], _ :: _, h => by simp [sameCells] at h
  | _ :: _, [], h => by simp [sameCells] at h
  | x :: r, y :: s, h => by
    simp only [sameCells, Bool.and_eq_true] at h
    rw [sameCell_eq h.1, sameCells_eq h.2]

def zeroOKb (t : Ty) (o : Option Value) : Bool :=
  match t.zero with
  | none => true
  | some z => match o with
    | some v => match isAggTy t with
      | true => (match v with | .agg cs => sameCells cs.toList z.cells | _ => false)
      | false => sameCells [v] z.cells
    | none => false

theorem zeroOKb_eq {t : Ty} {o : Option Value} (h : zeroOKb t o = true) : ∀ z, t.zero = some z → o = some z.enc := by
  intro z hz
  unfold zeroOKb at h
  rw [hz] at h
  cases o with
  | none => cases h
  | some v =>
    simp only at h
    have hs := zero_shape hz
    cases ha : isAggTy t with
    | true =>
      rw [ha] at h
      cases v <;> simp only at h <;> try (cases h; done)
      rename_i cs
      rw [enc_agg hs ha, ← sameCells_eq h]
    | false =>
      rw [ha] at h
      simp only at h
      have := sameCells_eq h
      rw [enc_scalar hs ha] at this
      simp at this
      rw [this]

def infoOKb (X : Tab) (t : Nat) : Bool :=
  match isData (X.T t) with
  | true => match X.P.info? t with
    | some i => Nat.beq i.size (X.T t).size && Nat.beq i.bytes (X.B t) && zeroOKb (X.T t) i.zero
    | none => false
  | false => true

def fieldsOKb (X : Tab) : List Field → List Ty → Nat → Bool
  | [], [], _ => true
  | f :: fr, t :: tr, off => Nat.beq f.offset off && (X.T f.type).same t && !(f.name == "_") && fieldsOKb X fr tr (off + t.size)
  | _, _, _ => false

def tyOKb (X : Tab) (t : Nat) : Ty → Bool
  | .int k => match X.P.underlying t with | some (.int k') => ksame k' k | _ => false
  | .bool => match X.P.underlying t with | some .bool => true | _ => false
  | .str => match X.P.underlying t with | some .string => true | _ => false
  | .ptr e => match X.P.underlying t with | some (.pointer e') => Nat.beq e' e | _ => false
  | .slice e => match X.P.underlying t with | some (.slice e') => Nat.beq e' e | _ => false
  | .map => match X.P.underlying t with | some (.map _ _) => true | _ => false
  | .arr k n => match X.P.underlying t with | some (.array n' e) => Nat.beq n' n && (X.T e).same (.int k) | _ => false
  | .struct false ts => (match X.P.underlying t with | some (.struct fs) => fieldsOKb X fs.toList ts 0 | _ => false) && !X.P.stoodInHeld t
  | .struct true ts => match X.P.underlying t with | some (.array n e) => Ty.sames ts (List.replicate n (X.T e)) && isData (X.T e) | _ => false
  | _ => true

theorem fieldsOKb_eq {X : Tab} : ∀ {fs : List Field} {ts : List Ty} {off : Nat}, fieldsOKb X fs ts off = true → fieldsOK X fs ts off
  | [], [], _, _ => trivial
  | [], _ :: _, _, h => by simp [fieldsOKb] at h
  | _ :: _, [], _, h => by simp [fieldsOKb] at h
  | f :: fr, t :: tr, off, h => by
    simp only [fieldsOKb, Bool.and_eq_true, Bool.not_eq_true'] at h
    exact ⟨nbeq.1 h.1.1.1, Ty.same_eq h.1.1.2, h.1.2, fieldsOKb_eq h.2⟩

theorem tyOKb_eq {X : Tab} {t : Nat} {T : Ty} (h : tyOKb X t T = true) : tyOK X t T := by
  unfold tyOKb at h
  unfold tyOK
  split at h
  case h_1 k =>
    split at h
    · rename_i k' e; rw [e, ksame_eq h]
    · cases h
  case h_2 => split at h <;> first | assumption | cases h
  case h_3 => split at h <;> first | assumption | cases h
  case h_4 e =>
    split at h
    · rename_i k' e; rw [e, nbeq.1 h]
    · cases h
  case h_5 e =>
    split at h
    · rename_i k' e; rw [e, nbeq.1 h]
    · cases h
  case h_6 =>
    split at h
    · rename_i k e he; exact ⟨k, e, he⟩
    · cases h
  case h_7 k n =>
    split at h
    · rename_i n' e he
      simp only [Bool.and_eq_true] at h
      refine ⟨e, ?_, Ty.same_eq h.2⟩
      rw [he, nbeq.1 h.1]
    · cases h
  case h_8 ts =>
    simp only [Bool.and_eq_true, Bool.not_eq_true'] at h
    obtain ⟨h1, h2⟩ := h
    split at h1
    · rename_i fs he
      exact ⟨fs, he, fieldsOKb_eq h1, h2⟩
    · cases h1
  case h_9 ts =>
    split at h
    · rename_i n e he
      simp only [Bool.and_eq_true] at h
      exact ⟨n, e, he, Ty.sames_eq h.1, h.2⟩
    · cases h
  case h_10 h1 h2 h3 h4 h5 h6 h7 h8 h9 =>
    cases T <;> simp_all

/-- one type -/
def oneOKb (X : Tab) (t : Nat) : Bool := tyOKb X t (X.T t) && infoOKb X t && (!(X.T t).cmp || !X.P.eqGuardType X.P.depth t)
def downAll (f : Nat → Bool) : Nat → Bool
  | 0 => true
  | n + 1 => f n && downAll f n
def callOKb (X : Tab) (f : Nat) : Bool :=
  match X.C f with
  | true => match X.P.funcs[f]? with
    | some fn => !fn.body.isNone && !(fn.name == "runtime.NumGoroutine")
    | none => false
  | false => true

theorem downAll_spec {f : Nat → Bool} : ∀ {n : Nat}, downAll f n = true → ∀ i, i < n → f i = true
  | 0, _, i, hi => by omega
  | n + 1, h, i, hi => by
    simp only [downAll, Bool.and_eq_true] at h
    by_cases e : i = n
    · subst e; exact h.1
    · exact downAll_spec h.2 i (by omega)

def nthD {α : Type} (d : α) : List α → Nat → α
  | [], _ => d
  | x :: _, 0 => x
  | _ :: r, n + 1 => nthD d r n
theorem nthD_out {α : Type} {d : α} : ∀ {l : List α} {n : Nat}, l.length ≤ n → nthD d l n = d
  | [], n, _ => by cases n <;> rfl
  | x :: r, 0, h => by simp at h
  | x :: r, n + 1, h => by simpa [nthD] using nthD_out (l := r) (by simpa using h)

/-- the table: types, their bytes, the functions that may be called -/
def tabOf (P : Program) (ts : List Ty) (bs : List Nat) (cs : List Bool) : Tab := { P, T := nthD .other ts, B := nthD 0 bs, C := nthD false cs, D := [] }

def tabOKb (P : Program) (ts : List Ty) (bs : List Nat) (cs : List Bool) : Bool :=
  downAll (oneOKb (tabOf P ts bs cs)) ts.length && downAll (callOKb (tabOf P ts bs cs)) cs.length && P.follows .mixedOrders

theorem tabOK_of {P : Program} {ts : List Ty} {bs : List Nat} {cs : List Bool} (h : tabOKb P ts bs cs = true) : TabOK (tabOf P ts bs cs) := by
  simp only [tabOKb, Bool.and_eq_true] at h
  obtain ⟨⟨h1, h2⟩, h3⟩ := h
  have one : ∀ t, t < ts.length → oneOKb (tabOf P ts bs cs) t = true := downAll_spec h1
  have out : ∀ t, ¬ t < ts.length → (tabOf P ts bs cs).T t = .other := fun t ht => nthD_out (by omega)
  have spl : ∀ t, t < ts.length → tyOKb (tabOf P ts bs cs) t ((tabOf P ts bs cs).T t) = true ∧ infoOKb (tabOf P ts bs cs) t = true ∧ (((tabOf P ts bs cs).T t).cmp = false ∨ P.eqGuardType P.depth t = false) := by
    intro t ht
    have := one t ht
    simp only [oneOKb, Bool.and_eq_true, Bool.or_eq_true, Bool.not_eq_true'] at this
    exact ⟨this.1.1, this.1.2, this.2⟩
  exact {
    ty := fun t => by
      by_cases ht : t < ts.length
      · exact tyOKb_eq (spl t ht).1
      · rw [out t ht]; trivial
    info := fun t hd => by
      by_cases ht : t < ts.length
      · have := (spl t ht).2.1
        unfold infoOKb at this
        rw [hd] at this
        simp only at this
        split at this
        · rename_i i hi
          simp only [Bool.and_eq_true] at this
          exact ⟨i, hi, nbeq.1 this.1.1, nbeq.1 this.1.2, zeroOKb_eq this.2⟩
        · cases this
      · rw [out t ht] at hd; cases hd
    eqg := fun t hc => by
      by_cases ht : t < ts.length
      · rcases (spl t ht).2.2 with h | h
        · rw [h] at hc; cases hc
        · exact h
      · rw [out t ht] at hc; cases hc
    call := fun f hf => by
      by_cases hlt : f < cs.length
      · have := downAll_spec h2 f hlt
        unfold callOKb at this
        rw [hf] at this
        simp only at this
        split at this
        · rename_i fn hfn
          simp only [Bool.and_eq_true, Bool.not_eq_true'] at this
          exact ⟨fn, hfn, this.1, this.2⟩
        · cases this
      · have : (tabOf P ts bs cs).C f = false := nthD_out (by omega)
        rw [this] at hf; cases hf
    mixed := h3 }
end Go.Vc
