import Derived.Test.YtopobapmncbjhaaVcQ
namespace Go.Vc
open Go.RowKit (Below)
set_option linter.unusedSimpArgs false
set_option linter.unusedVariables false
set_option autoImplicit false

/-- i waits for j, at once or through others -/
inductive Anc (ops : Array Oper) : Nat → Nat → Prop
  | one {i j : Nat} {o : Oper} {e : Edge} : ops[i]? = some o → e ∈ o.after → Region.binds .any e = true → e.on = j → Anc ops i j
  | more {i j : Nat} {o : Oper} {e : Edge} : ops[i]? = some o → e ∈ o.after → Region.binds .any e = true → Anc ops e.on j → Anc ops i j

theorem ancOf_sound {ops : Array Oper} {j : Nat} : ∀ {n i : Nat}, ancOf ops.toList n i j = true → Anc ops i j
  | 0, i, h => by simp [ancOf] at h
  | n + 1, i, h => by
    simp only [ancOf, nth_eq] at h
    split at h
    · rename_i o ho
      obtain ⟨e, he, h⟩ := List.any_eq_true.1 h
      simp only [Bool.and_eq_true, Bool.or_eq_true] at h
      have ho : ops[i]? = some o := by simpa using ho
      rcases h.2 with h2 | h2
      · exact .one ho (by simpa using he) h.1 (nbeq.1 h2)
      · exact .more ho (by simpa using he) h.1 (ancOf_sound h2)
    · cases h

def Down (ops : Array Oper) (listed : Array Bool) : Prop := ∀ i o, ops[i]? = some o → listed.getD i false = true → ∀ e ∈ o.after, Region.binds .any e = true → listed.getD e.on false = true

theorem Down.anc {ops : Array Oper} {listed : Array Bool} (h : Down ops listed) {i j : Nat} (ha : Anc ops i j) : listed.getD i false = true → listed.getD j false = true := by
  induction ha with
  | one ho he hb hj => intro hl; subst hj; exact h _ _ ho hl _ he hb
  | more ho he hb _ ih => intro hl; exact ih (h _ _ ho hl _ he hb)

theorem getD_set_iff {listed : Array Bool} {i m : Nat} (h : (listed.setIfInBounds i true).getD m false = true) : m = i ∨ listed.getD m false = true := by
  by_cases hmi : i = m
  · exact .inl hmi.symm
  · rw [getD_set_ne false hmi] at h; exact .inr h

theorem Down.set {ops : Array Oper} {listed : Array Bool} (h : Down ops listed) {i : Nat} (hr : i ∈ Region.ready .any ops listed) : Down ops (listed.setIfInBounds i true) := by
  intro m o ho hm e he hb
  rcases getD_set_iff hm with rfl | hm
  · obtain ⟨_, o', ho', hall⟩ := mem_ready.1 hr
    rw [ho] at ho'
    obtain rfl : o = o' := by simpa using ho'
    exact getD_set_true (hall e he hb)
  · exact getD_set_true (h m o ho hm e he hb)

theorem Down.ready {ops : Array Oper} {listed : Array Bool} (h : Down ops listed) {i j : Nat} (hr : i ∈ Region.ready .any ops listed) (ha : Anc ops i j) : listed.getD j false = true := by
  obtain ⟨_, o, ho, hall⟩ := mem_ready.1 hr
  cases ha with
  | one ho' he hb hj =>
    rw [ho] at ho'
    obtain rfl : o = _ := by simpa using ho'
    subst hj; exact hall _ he hb
  | more ho' he hb ha =>
    rw [ho] at ho'
    obtain rfl : o = _ := by simpa using ho'
    exact h.anc ha (hall _ he hb)

theorem unlisted {ops : Array Oper} {listed : Array Bool} {i : Nat} (hr : i ∈ Region.ready .any ops listed) : listed.getD i false = false := by
  have h0 := (mem_ready.1 hr).1
  rcases Nat.lt_or_ge i listed.size with h' | h'
  · simp [h'] at h0 ⊢; exact h0
  · simp [Array.getElem?_eq_none h']

theorem racesFrom_false {all : List Oper} {i : Nat} : ∀ {l : List Oper} {j : Nat}, racesFrom all i l j = false → ∀ m o, l[m]? = some o → isLoad o = true → i = j + m ∨ ancOf all all.length i (j + m) = true
  | [], j, h, m, o, ho, hl => by simp at ho
  | x :: r, j, h, m, o, ho, hl => by
    simp only [racesFrom, Bool.or_eq_false_iff] at h
    cases m with
    | zero =>
      simp at ho
      subst ho
      rw [hl] at h
      simp at h
      by_cases hij : i = j
      · exact .inl (by omega)
      · exact .inr (by simpa using h.1 (nbeq_false.2 hij))
    | succ m =>
      have := racesFrom_false h.2 m o (by simpa using ho) hl
      rw [show j + (m + 1) = j + 1 + m by omega]
      exact this

/-- does it leave what was there as it was? -/
def strictOp (X : Tab) (ops : Array Oper) (i : Nat) : Bool := match ops[i]? with | some o => racesWith ops.toList i || quiet X o | none => true

theorem strict_anc {X : Tab} {ops : Array Oper} {j : Nat} (h : strictOp X ops j = false) {l : Nat} {o : Oper} (hl : ops[l]? = some o) (ho : isLoad o = true) (hne : l ≠ j) : Anc ops j l := by
  unfold strictOp at h
  split at h
  · simp only [Bool.or_eq_false_iff, racesWith] at h
    rcases racesFrom_false h.1 l o (by simpa using hl) ho with e | e
    · omega
    · exact ancOf_sound (by simpa using e)
  · cases h

section
variable {X : Tab} {ops : Array Oper} {Q : Exit → Act → World → Prop} {C : World → Prop}

def AllStrict (X : Tab) (ops : Array Oper) (listed : Array Bool) : Prop := ∀ m, listed.getD m false = true → strictOp X ops m = true

/-- 'wpAny' that keeps account of what leaves things as they were -/
def wpAnyC (X : Tab) (C : World → Prop) (ops : Array Oper) (Q : Exit → Act → World → Prop) : Nat → Array Bool → Act → World → Prop
  | 0, listed, a, w => Region.ready .any ops listed = [] ∧ Q .normal a w
  | fuel + 1, listed, a, w =>
    (Region.ready .any ops listed = [] → Q .normal a w) ∧
    ∀ i ∈ Region.ready .any ops listed, wpOp X.P ops Q i (fun a' w' => (strictOp X ops i = true → AllStrict X ops listed → C w') ∧ wpAnyC X C ops Q fuel (listed.setIfInBounds i true) a' w') a w

theorem wpAny_of_C : ∀ (fuel : Nat) (listed : Array Bool) (a : Act) (w : World), wpAnyC X C ops Q fuel listed a w → wpAny X.P .any ops Q fuel listed a w
  | 0, _, _, _, h => h
  | fuel + 1, listed, a, w, h => ⟨h.1, fun i hi => wpOp_mono (fun a' w' hh => wpAny_of_C fuel _ a' w' hh.2) (h.2 i hi)⟩

/-- it yields this value wherever C holds (a load) or in any world -/
def YieldsC (X : Tab) (C : World → Prop) (ops : Array Oper) (o : Oper) (v : Value) (a : Act) : Prop :=
  (Region.wanted o (yielded ops a.tmps) = true ∧ ∀ w, (isLoad o = true → C w) → (execOp a.eval o).run X.P w = .ok (.value v) w) ∨
  (Region.wanted o (yielded ops a.tmps) = false ∧ v = undef)

theorem YieldsC.wpOp {i : Nat} {o : Oper} {v : Value} {a : Act} (hi : ops[i]? = some o) (hy : YieldsC X C ops o v a)
    {K : Act → World → Prop} {w : World} (hc : isLoad o = true → C w) (h : K (a.put o.dst v) w) : wpOp X.P ops Q i K a w := by
  unfold Go.wpOp
  simp only [hi]
  rcases hy with ⟨hw, hv⟩ | ⟨hw, rfl⟩
  · simp only [hw, if_true, Oper.wp, hv w hc, Oper.upon]; exact .inl h
  · simp only [hw, Bool.false_eq_true, if_false]; exact h

theorem YieldsC.of_same {o : Oper} {v : Value} {a a' : Act} (hy : YieldsC X C ops o v a) (he : execOp a'.eval o = execOp a.eval o)
    (hw : Region.wanted o (yielded ops a'.tmps) = Region.wanted o (yielded ops a.tmps)) : YieldsC X C ops o v a' := by
  unfold YieldsC at *
  rw [he, hw]
  exact hy

theorem wpOp_putC {j : Nat} {oi oj : Oper} {v : Value} (hj : ops[j]? = some oj) (hap : oi.apart ops oj = true)
    (hsi : ∀ cs b, oi.op ≠ .select cs b) (hsj : ∀ cs b, oj.op ≠ .select cs b)
    (hQ : ∀ c a w, ¬ Q (.panic c) a w) (hO : ∀ a w, ¬ Q .outgrown a w) {K : Act → World → Prop} {a : Act} {w : World}
    (hy : YieldsC X C ops oi v a) (h : wpOp X.P ops Q j K (a.put oi.dst v) w) :
    wpOp X.P ops Q j (fun a' w' => YieldsC X C ops oi v a' ∧ K (a'.put oi.dst v) w') a w := by
  obtain ⟨h1, h2, h3⟩ := Oper.apart_spec hap
  have keep : ∀ (a : Act), YieldsC X C ops oi v a → ∀ u, YieldsC X C ops oi v (a.put oj.dst u) := fun a hy u =>
    hy.of_same (execOp_put oi hsi a oj.dst u h3) (wanted_put oi a oj.dst u h3)
  have keepD : ∀ d, YieldsC X C ops oi v { a with defers := d :: a.defers } := fun d => hy.of_same rfl rfl
  unfold wpOp at *
  simp only [hj] at *
  rw [wanted_put oj a oi.dst v h1] at h
  split
  · rename_i hw
    simp only [hw, if_true] at h
    rcases h with h | ⟨hasks, hlets⟩
    case inr => exact .inr ⟨by unfold Oper.asks at *; rw [execOp_put oj hsj a oi.dst v h1] at hasks; exact hasks, hlets⟩
    refine .inl ?_
    unfold Oper.wp at *
    rw [execOp_put oj hsj a oi.dst v h1] at h
    generalize (execOp a.eval oj).run X.P w = r at *
    cases r with
    | ok n w' =>
      cases n <;> simp only [Oper.upon] at h ⊢
      case value u => exact ⟨keep a hy u, by rw [← Act.put_comm a v u h2]; exact h⟩
      case skip => exact ⟨keep a hy _, by rw [← Act.put_comm a v undef h2]; exact h⟩
      case defer d =>
        refine ⟨keep _ (keepD d) _, ?_⟩
        rw [← Act.put_comm _ v undef h2, ← Act.put_defers]
        exact h
      case enter f args =>
        refine Calls.mono h fun e w'' he => ?_
        cases e with
        | returned u => exact ⟨keep a hy u, by rw [← Act.put_comm a v u h2]; exact he⟩
        | panicked c => exact absurd he (hQ _ _ _)
        | outgrown => exact he
      case row row args => exact Rows.mono h fun u w'' he => ⟨keep a hy u, by rw [← Act.put_comm a v u h2]; exact he⟩
    | halt x w' =>
      cases x <;> simp only [Oper.upon] at h ⊢
      case panic u => exact absurd h (hQ _ _ _)
  · rename_i hw
    simp only [hw] at h
    exact ⟨keep a hy _, by rw [← Act.put_comm a v undef h2]; exact h⟩

/-- a quiet operation is carried out first -/
theorem wpAnyC_first {i : Nat} {oi : Oper} {v : Value} (hi : ops[i]? = some oi) (hsel : ∀ (j : Nat) (o : Oper) cs b, ops[j]? = some o → o.op ≠ .select cs b)
    (hQ : ∀ c a w, ¬ Q (.panic c) a w) (hO : ∀ a w, ¬ Q .outgrown a w) (hst : strictOp X ops i = true) :
    ∀ (fuel : Nat) (listed : Array Bool) (a : Act) (w : World),
      (∀ j oj, ops[j]? = some oj → j ≠ i → listed.getD j true = false → (∀ e ∈ oj.after, Region.binds .any e = true → e.on ≠ i) → oi.apart ops oj = true) →
      i ∈ Region.ready .any ops listed → Down ops listed → (AllStrict X ops listed → C w) → YieldsC X C ops oi v a →
      wpAnyC X C ops Q fuel (listed.setIfInBounds i true) (a.put oi.dst v) w → wpAnyC X C ops Q (fuel + 1) listed a w := by
  -- a load that is not done yet: all that is done is strict
  have hload : ∀ listed, i ∈ Region.ready .any ops listed → Down ops listed → isLoad oi = true → AllStrict X ops listed := by
    intro listed hr hd hl m hm
    cases hs : strictOp X ops m with
    | true => rfl
    | false =>
      exfalso
      have hun := unlisted hr
      have hne : i ≠ m := by rintro rfl; rw [hun] at hm; cases hm
      have := hd.anc (strict_anc hs hi hl hne) hm
      rw [hun] at this
      cases this
  have hloadj : ∀ listed j, i ∈ Region.ready .any ops listed → Down ops listed → isLoad oi = true → j ∈ Region.ready .any ops listed → j ≠ i → strictOp X ops j = true := by
    intro listed j hr hd hl hj hji
    cases hs : strictOp X ops j with
    | true => rfl
    | false =>
      exfalso
      have := hd.ready hj (strict_anc hs hi hl (Ne.symm hji))
      rw [unlisted hr] at this
      cases this
  have hall : ∀ listed, AllStrict X ops listed → AllStrict X ops (listed.setIfInBounds i true) := by
    intro listed h m hm
    rcases getD_set_iff hm with rfl | hm
    · exact hst
    · exact h m hm
  intro fuel
  induction fuel with
  | zero =>
    intro listed a w _ hr hd hc hy H
    refine ⟨fun h => (by rw [h] at hr; cases hr), fun j hj => ?_⟩
    by_cases hji : j = i
    · subst hji; exact hy.wpOp hi (fun hl => hc (hload _ hr hd hl)) ⟨fun _ h => hc h, H⟩
    · have := ready_mono hj hji
      rw [H.1] at this
      cases this
  | succ fuel ih =>
    intro listed a w hfree hr hd hc hy H
    refine ⟨fun h => (by rw [h] at hr; cases hr), fun j hj => ?_⟩
    by_cases hji : j = i
    · subst hji; exact hy.wpOp hi (fun hl => hc (hload _ hr hd hl)) ⟨fun _ h => hc h, H⟩
    · have h1 := H.2 j (ready_mono hj hji)
      obtain ⟨hjun, oj, hoj, hallj⟩ := mem_ready.1 hj
      have hnot : ∀ e ∈ oj.after, Region.binds .any e = true → e.on ≠ i := fun e he hb heq => by
        have h1 := hallj e he hb
        rw [heq, unlisted hr] at h1
        cases h1
      have h2 := wpOp_putC hoj (hfree j oj hoj hji hjun hnot) (fun cs b => hsel i oi cs b hi) (fun cs b => hsel j oj cs b hoj) hQ hO hy h1
      have hfree' : ∀ k ok, ops[k]? = some ok → k ≠ i → (listed.setIfInBounds j true).getD k true = false →
          (∀ e ∈ ok.after, Region.binds .any e = true → e.on ≠ i) → oi.apart ops ok = true := fun k ok hk hki hun hno => by
        refine hfree k ok hk hki ?_ hno
        by_cases hjk : j = k
        · subst hjk; exact hjun
        · rw [getD_set_ne true hjk] at hun; exact hun
      refine wpOp_mono (fun a' w' h3 => ⟨fun h4 h5 => h3.2.1 h4 (hall _ h5), ?_⟩) h2
      refine ih (listed.setIfInBounds j true) a' w' hfree' (ready_mono hr (Ne.symm hji)) (hd.set hj) (fun h5 => ?_) h3.1 ?_
      · have hsj : strictOp X ops j = true := h5 j (by
          have hlt := (Array.getElem?_eq_some_iff.1 hoj).1
          have : listed.getD j true = false := hjun
          rcases Nat.lt_or_ge j listed.size with h' | h'
          · simp [h']
          · simp [Array.getElem?_eq_none h'] at this)
        have hold : AllStrict X ops listed := fun m hm => h5 m (getD_set_true hm)
        exact h3.2.1 hsj (hall _ hold)
      · rw [Array.setIfInBounds_comm _ _ hji]
        exact h3.2.2
end
end Go.Vc
