import Derived.Test.YthijmbkpkopdpaaTopWholeOnce4K1
import Derived.Test.YthijmbkpkopdpaaProg
import Derived.Below
section
namespace Go.Vc
open Go.RowKit (Below)
set_option linter.unusedSimpArgs false
set_option linter.unusedVariables false
set_option autoImplicit false

/-- i waits for j, at once or through others -/
inductive Anc (ops : Array Oper) : Nat → Nat → Prop
  | one {i j : Nat} {o : Oper} {e : Edge} : ops[i]? = some o → e ∈ o.after → Region.binds .any e = true → e.on = j → Anc ops i j
  | more {i j : Nat} {o : Oper} {e : Edge} : ops[i]? = some o → e ∈ o.after → Region.binds .any e = true → Anc ops e.on j → Anc ops i j

theorem ancOf_sound {ops : Array Oper} {j : Nat} : ∀ {n i : Nat}, ancOf ops.toList n i j = true → Anc ops i j
  | 0, i, h => by simp [ancOf] at h
  | n + 1, i, h => by
    simp only [ancOf, nth_eq] at h
    split at h
    · rename_i o ho
      obtain ⟨e, he, h⟩ := List.any_eq_true.1 h
      simp only [Bool.and_eq_true, Bool.or_eq_true] at h
      have ho : ops[i]? = some o := by simpa using ho
      rcases h.2 with h2 | h2
      · exact .one ho (by simpa using he) h.1 (nbeq.1 h2)
      · exact .more ho (by simpa using he) h.1 (ancOf_sound h2)
    · cases h

def Down (ops : Array Oper) (listed : Array Bool) : Prop := ∀ i o, ops[i]? = some o → listed.getD i false = true → ∀ e ∈ o.after, Region.binds .any e = true → listed.getD e.on false = true

theorem Down.anc {ops : Array Oper} {listed : Array Bool} (h : Down ops listed) {i j : Nat} (ha : Anc ops i j) : listed.getD i false = true → listed.getD j false = true := by
  induction ha with
  | one ho he hb hj => intro hl; subst hj; exact h _ _ ho hl _ he hb
  | more ho he hb _ ih => intro hl; exact ih (h _ _ ho hl _ he hb)

theorem getD_set_iff {listed : Array Bool} {i m : Nat} (h : (listed.setIfInBounds i true).getD m false = true) : m = i ∨ listed.getD m false = true := by
  by_cases hmi : i = m
  · exact .inl hmi.symm
  · rw [getD_set_ne false hmi] at h; exact .inr h

theorem Down.set {ops : Array Oper} {listed : Array Bool} (h : Down ops listed) {i : Nat} (hr : i ∈ Region.ready .any ops listed) : Down ops (listed.setIfInBounds i true) := by
  intro m o ho hm e he hb
  rcases getD_set_iff hm with rfl | hm
  · obtain ⟨_, o', ho', hall⟩ := mem_ready.1 hr
    rw [ho] at ho'
    obtain rfl : o = o' := by simpa using ho'
    exact getD_set_true (hall e he hb)
  · exact getD_set_true (h m o ho hm e he hb)

theorem Down.ready {ops : Array Oper} {listed : Array Bool} (h : Down ops listed) {i j : Nat} (hr : i ∈ Region.ready .any ops listed) (ha : Anc ops i j) : listed.getD j false = true := by
  obtain ⟨_, o, ho, hall⟩ := mem_ready.1 hr
  cases ha with
  | one ho' he hb hj =>
    rw [ho] at ho'
    obtain rfl : o = _ := by simpa using ho'
    subst hj; exact hall _ he hb
  | more ho' he hb ha =>
    rw [ho] at ho'
    obtain rfl : o = _ := by simpa using ho'
    exact h.anc ha (hall _ he hb)

theorem unlisted {ops : Array Oper} {listed : Array Bool} {i : Nat} (hr : i ∈ Region.ready .any ops listed) : listed.getD i false = false := by
  have h0 := (mem_ready.1 hr).1
  rcases Nat.lt_or_ge i listed.size with h' | h'
  · simp [h'] at h0 ⊢; exact h0
  · simp [Array.getElem?_eq_none h']

theorem racesFrom_false {all : List Oper} {i : Nat} : ∀ {l : List Oper} {j : Nat}, racesFrom all i l j = false → ∀ m o, l[m]? = some o → isLoad o = true → i = j + m ∨ ancOf all all.length i (j + m) = true
  | [], j, h, m, o, ho, hl => by simp at ho
  | x :: r, j, h, m, o, ho, hl => by
    simp only [racesFrom, Bool.or_eq_false_iff] at h
    cases m with
    | zero =>
      simp at ho
      subst ho
      rw [hl] at h
      simp at h
      by_cases hij : i = j
      · exact .inl (by omega)
      · exact .inr (by simpa using h.1 (nbeq_false.2 hij))
    | succ m =>
      have := racesFrom_false h.2 m o (by simpa using ho) hl
      rw [show j + (m + 1) = j + 1 + m by omega]
      exact this

/-- does it leave what was there as it was? -/
def strictOp (X : Tab) (ops : Array Oper) (i : Nat) : Bool := match ops[i]? with | some o => racesWith ops.toList i || quiet X o | none => true

theorem strict_anc {X : Tab} {ops : Array Oper} {j : Nat} (h : strictOp X ops j = false) {l : Nat} {o : Oper} (hl : ops[l]? = some o) (ho : isLoad o = true) (hne : l ≠ j) : Anc ops j l := by
  unfold strictOp at h
  split at h
  · simp only [Bool.or_eq_false_iff, racesWith] at h
    rcases racesFrom_false h.1 l o (by simpa using hl) ho with e | e
    · omega
    · exact ancOf_sound (by simpa using e)
  · cases h

section
variable {X : Tab} {ops : Array Oper} {Q : Exit → Act → World → Prop} {C : World → Prop}

def AllStrict (X : Tab) (ops : Array Oper) (listed : Array Bool) : Prop := ∀ m, listed.getD m false = true → strictOp X ops m = true

/-- 'wpAny' that keeps account of what leaves things as they were -/
def wpAnyC (X : Tab) (C : World → Prop) (ops : Array Oper) (Q : Exit → Act → World → Prop) : Nat → Array Bool → Act → World → Prop
  | 0, listed, a, w => Region.ready .any ops listed = [] ∧ Q .normal a w
  | fuel + 1, listed, a, w =>
    (Region.ready .any ops listed = [] → Q .normal a w) ∧
    ∀ i ∈ Region.ready .any ops listed, wpOp X.P ops Q i (fun a' w' => (strictOp X ops i = true → AllStrict X ops listed → C w') ∧ wpAnyC X C ops Q fuel (listed.setIfInBounds i true) a' w') a w

theorem wpAny_of_C : ∀ (fuel : Nat) (listed : Array Bool) (a : Act) (w : World), wpAnyC X C ops Q fuel listed a w → wpAny X.P .any ops Q fuel listed a w
  | 0, _, _, _, h => h
  | fuel + 1, listed, a, w, h => ⟨h.1, fun i hi => wpOp_mono (fun a' w' hh => wpAny_of_C fuel _ a' w' hh.2) (h.2 i hi)⟩

/-- it yields this value wherever C holds (a load) or in any world -/
def YieldsC (X : Tab) (C : World → Prop) (ops : Array Oper) (o : Oper) (v : Value) (a : Act) : Prop :=
  (Region.wanted o (yielded ops a.tmps) = true ∧ ∀ w, (isLoad o = true → C w) → (execOp a.eval o).run X.P w = .ok (.value v) w) ∨
  (Region.wanted o (yielded ops a.tmps) = false ∧ v = undef)

theorem YieldsC.wpOp {i : Nat} {o : Oper} {v : Value} {a : Act} (hi : ops[i]? = some o) (hy : YieldsC X C ops o v a)
    {K : Act → World → Prop} {w : World} (hc : isLoad o = true → C w) (h : K (a.put o.dst v) w) : wpOp X.P ops Q i K a w := by
  unfold Go.wpOp
  simp only [hi]
  rcases hy with ⟨hw, hv⟩ | ⟨hw, rfl⟩
  · simp only [hw, if_true, Oper.wp, hv w hc, Oper.upon]; exact .inl h
  · simp only [hw, Bool.false_eq_true, if_false]; exact h

theorem YieldsC.of_same {o : Oper} {v : Value} {a a' : Act} (hy : YieldsC X C ops o v a) (he : execOp a'.eval o = execOp a.eval o)
    (hw : Region.wanted o (yielded ops a'.tmps) = Region.wanted o (yielded ops a.tmps)) : YieldsC X C ops o v a' := by
  unfold YieldsC at *
  rw [he, hw]
  exact hy

theorem wpOp_putC {j : Nat} {oi oj : Oper} {v : Value} (hj : ops[j]? = some oj) (hap : oi.apart ops oj = true)
    (hsi : ∀ cs b, oi.op ≠ .select cs b) (hsj : ∀ cs b, oj.op ≠ .select cs b)
    (hQ : ∀ c a w, ¬ Q (.panic c) a w) (hO : ∀ a w, ¬ Q .outgrown a w) {K : Act → World → Prop} {a : Act} {w : World}
    (hy : YieldsC X C ops oi v a) (h : wpOp X.P ops Q j K (a.put oi.dst v) w) :
    wpOp X.P ops Q j (fun a' w' => YieldsC X C ops oi v a' ∧ K (a'.put oi.dst v) w') a w := by
  obtain ⟨h1, h2, h3⟩ := Oper.apart_spec hap
  have keep : ∀ (a : Act), YieldsC X C ops oi v a → ∀ u, YieldsC X C ops oi v (a.put oj.dst u) := fun a hy u =>
    hy.of_same (execOp_put oi hsi a oj.dst u h3) (wanted_put oi a oj.dst u h3)
  have keepD : ∀ d, YieldsC X C ops oi v { a with defers := d :: a.defers } := fun d => hy.of_same rfl rfl
  unfold wpOp at *
  simp only [hj] at *
  rw [wanted_put oj a oi.dst v h1] at h
  split
  · rename_i hw
    simp only [hw, if_true] at h
    rcases h with h | ⟨hasks, hlets⟩
    case inr => exact .inr ⟨by unfold Oper.asks at *; rw [execOp_put oj hsj a oi.dst v h1] at hasks; exact hasks, hlets⟩
    refine .inl ?_
    unfold Oper.wp at *
    rw [execOp_put oj hsj a oi.dst v h1] at h
    generalize (execOp a.eval oj).run X.P w = r at *
    cases r with
    | ok n w' =>
      cases n <;> simp only [Oper.upon] at h ⊢
      case value u => exact ⟨keep a hy u, by rw [← Act.put_comm a v u h2]; exact h⟩
      case skip => exact ⟨keep a hy _, by rw [← Act.put_comm a v undef h2]; exact h⟩
      case defer d =>
        refine ⟨keep _ (keepD d) _, ?_⟩
        rw [← Act.put_comm _ v undef h2, ← Act.put_defers]
        exact h
      case enter f args =>
        refine Calls.mono h fun e w'' he => ?_
        cases e with
        | returned u => exact ⟨keep a hy u, by rw [← Act.put_comm a v u h2]; exact he⟩
        | panicked c => exact absurd he (hQ _ _ _)
        | outgrown => exact he
      case row row args => exact Rows.mono h fun u w'' he => ⟨keep a hy u, by rw [← Act.put_comm a v u h2]; exact he⟩
    | halt x w' =>
      cases x <;> simp only [Oper.upon] at h ⊢
      case panic u => exact absurd h (hQ _ _ _)
  · rename_i hw
    simp only [hw] at h
    exact ⟨keep a hy _, by rw [← Act.put_comm a v undef h2]; exact h⟩

/-- a quiet operation is carried out first -/
theorem wpAnyC_first {i : Nat} {oi : Oper} {v : Value} (hi : ops[i]? = some oi) (hsel : ∀ (j : Nat) (o : Oper) cs b, ops[j]? = some o → o.op ≠ .select cs b)
    (hQ : ∀ c a w, ¬ Q (.panic c) a w) (hO : ∀ a w, ¬ Q .outgrown a w) (hst : strictOp X ops i = true) :
    ∀ (fuel : Nat) (listed : Array Bool) (a : Act) (w : World),
      (∀ j oj, ops[j]? = some oj → j ≠ i → listed.getD j true = false → (∀ e ∈ oj.after, Region.binds .any e = true → e.on ≠ i) → oi.apart ops oj = true) →
      i ∈ Region.ready .any ops listed → Down ops listed → (AllStrict X ops listed → C w) → YieldsC X C ops oi v a →
      wpAnyC X C ops Q fuel (listed.setIfInBounds i true) (a.put oi.dst v) w → wpAnyC X C ops Q (fuel + 1) listed a w := by
  -- a load that is not done yet: all that is done is strict
  have hload : ∀ listed, i ∈ Region.ready .any ops listed → Down ops listed → isLoad oi = true → AllStrict X ops listed := by
    intro listed hr hd hl m hm
    cases hs : strictOp X ops m with
    | true => rfl
    | false =>
      exfalso
      have hun := unlisted hr
      have hne : i ≠ m := by rintro rfl; rw [hun] at hm; cases hm
      have := hd.anc (strict_anc hs hi hl hne) hm
      rw [hun] at this
      cases this
  have hloadj : ∀ listed j, i ∈ Region.ready .any ops listed → Down ops listed → isLoad oi = true → j ∈ Region.ready .any ops listed → j ≠ i → strictOp X ops j = true := by
    intro listed j hr hd hl hj hji
    cases hs : strictOp X ops j with
    | true => rfl
    | false =>
      exfalso
      have := hd.ready hj (strict_anc hs hi hl (Ne.symm hji))
      rw [unlisted hr] at this
      cases this
  have hall : ∀ listed, AllStrict X ops listed → AllStrict X ops (listed.setIfInBounds i true) := by
    intro listed h m hm
    rcases getD_set_iff hm with rfl | hm
    · exact hst
    · exact h m hm
  intro fuel
  induction fuel with
  | zero =>
    intro listed a w _ hr hd hc hy H
    refine ⟨fun h => (by rw [h] at hr; cases hr), fun j hj => ?_⟩
    by_cases hji : j = i
    · subst hji; exact hy.wpOp hi (fun hl => hc (hload _ hr hd hl)) ⟨fun _ h => hc h, H⟩
    · have := ready_mono hj hji
      rw [H.1] at this
      cases this
  | succ fuel ih =>
    intro listed a w hfree hr hd hc hy H
    refine ⟨fun h => (by rw [h] at hr; cases hr), fun j hj => ?_⟩
    by_cases hji : j = i
    · subst hji; exact hy.wpOp hi (fun hl => hc (hload _ hr hd hl)) ⟨fun _ h => hc h, H⟩
    · have h1 := H.2 j (ready_mono hj hji)
      obtain ⟨hjun, oj, hoj, hallj⟩ := mem_ready.1 hj
      have hnot : ∀ e ∈ oj.after, Region.binds .any e = true → e.on ≠ i := fun e he hb heq => by
        have h1 := hallj e he hb
        rw [heq, unlisted hr] at h1
        cases h1
      have h2 := wpOp_putC hoj (hfree j oj hoj hji hjun hnot) (fun cs b => hsel i oi cs b hi) (fun cs b => hsel j oj cs b hoj) hQ hO hy h1
      have hfree' : ∀ k ok, ops[k]? = some ok → k ≠ i → (listed.setIfInBounds j true).getD k true = false →
          (∀ e ∈ ok.after, Region.binds .any e = true → e.on ≠ i) → oi.apart ops ok = true := fun k ok hk hki hun hno => by
        refine hfree k ok hk hki ?_ hno
        by_cases hjk : j = k
        · subst hjk; exact hjun
        · rw [getD_set_ne true hjk] at hun; exact hun
      refine wpOp_mono (fun a' w' h3 => ⟨fun h4 h5 => h3.2.1 h4 (hall _ h5), ?_⟩) h2
      refine ih (listed.setIfInBounds j true) a' w' hfree' (ready_mono hr (Ne.symm hji)) (hd.set hj) (fun h5 => ?_) h3.1 ?_
      · have hsj : strictOp X ops j = true := h5 j (by
          have hlt := (Array.getElem?_eq_some_iff.1 hoj).1
          have : listed.getD j true = false := hjun
          rcases Nat.lt_or_ge j listed.size with h' | h'
          · simp [h']
          · simp [Array.getElem?_eq_none h'] at this)
        have hold : AllStrict X ops listed := fun m hm => h5 m (getD_set_true hm)
        exact h3.2.1 hsj (hall _ hold)
      · rw [Array.setIfInBounds_comm _ _ hji]
        exact h3.2.2
end
end Go.Vc
end

section
namespace Go.Vc
open Go.RowKit (Below)
set_option linter.unusedSimpArgs false
set_option linter.unusedVariables false
set_option autoImplicit false

section
variable {X : Tab} (ok : TabOK X) {N : Nat} {ops : Array Oper} {Q : Exit → Act → World → Prop} {K : Option (List Nat)}

/-- what loads rely on: w0 and the local structs of s0 as they were -/
def Was0 (K : Option (List Nat)) (w0 w : World) : Prop := match K with | none => Upd [] [] w0 w | some bs => (∀ b, b ∈ bs → b < w0.heap.size) ∧ Kept bs w0 w
theorem Was0.trans {K : Option (List Nat)} {w0 w w1 : World} (h : Was0 K w0 w) (u : Upd [] [] w w1) : Was0 K w0 w1 := by
  cases K with
  | none => exact Upd.trans h u
  | some bs =>
    refine ⟨h.1, fun b hb => ?_⟩
    have h1 := h.2 b hb
    have h2 := h.1 b hb
    have h3 : b < w.heap.size := by
      rw [Array.getElem?_eq_getElem h2] at h1
      rcases Nat.lt_or_ge b w.heap.size with h4 | h4
      · exact h4
      · rw [Array.getElem?_eq_none h4] at h1; cases h1
    rw [u.keep b h3 (by simp), h1]
theorem Was0.cell {K : Option (List Nat)} {w0 w : World} {F : Prop} {ad : Addr} {j : Nat} {v : Value} (h : Was0 K w0 w) (hk : kin K ad.block F) (hv : w0.cell? (ad.add j) = some v) : w.cell? (ad.add j) = some v := by
  cases K with
  | none => exact Upd.cell h hv (by simp)
  | some bs =>
    have h1 := h.2 ad.block hk.1
    have hb : (ad.add j).block = ad.block := by cases ad; rename_i sp; cases sp <;> simp only [Addr.add] <;> split <;> rfl
    rw [← hv]
    unfold World.cell?
    rw [hb, h1]
theorem kin_F {K : Option (List Nat)} {b : Nat} {F : Prop} (h : kin K b F) : F := by cases K with | none => exact h | some bs => exact h.2
theorem knew_iff {K : Option (List Nat)} {w0 w : World} {F : Prop} (h : knew K w0 w F) (hb : Was0 K w0 w0) : Was0 K w0 w ∧ F := by
  cases K with
  | none => exact h
  | some bs => exact ⟨⟨hb.1, h.1⟩, h.2⟩
def Was (K : Option (List Nat)) (s0 : St) (w0 : World) (n0 : Nat) (w : World) : Prop :=
  Was0 K w0 w ∧ ∀ i b t c, i < n0 → s0.bx i = some (.box b t c) → w.heap[b]? = some (.cells c.cells.toArray t (0, 0))

include ok in
theorem cells_load {ad : Addr} {t : Nat} {wa : World} {x : SV} (h1 : x.shape (X.T t) = true) (hD : isData (X.T t) = true) (h3' : ∀ j u, x.cells[j]? = some u → wa.cell? (ad.add j) = some u) :
    (Instr.loadAt t (.pointer (some ad))).run X.P wa = .ok x.enc wa := by
  simp only [Instr.loadAt, Instr.sureAddr, loadVar, Sem.run_bind, Sem.run_pure, Result.andThen_ok, isAgg_run ok t hD, sizeOf_run ok t hD]
  cases hag : isAggTy (X.T t) with
  | true =>
    have hlc := run_loadCells_list (P := X.P) wa ad x.cells h3'
    rw [shape_size h1] at hlc
    simp only [if_true, Sem.run_bind, sizeOf_run ok t hD, Result.andThen_ok, hlc, Sem.run_pure]
    rw [enc_agg h1 hag]
  | false =>
    have hsc := enc_scalar h1 hag
    have := h3' 0 x.enc (by rw [hsc]; rfl)
    have h0 : ad.add 0 = ad := rfl
    rw [h0] at this
    simp [run_load, this]

theorem load_allStrict {i : Nat} {oi : Oper} (hi : ops[i]? = some oi) {listed : Array Bool} (hr : i ∈ Region.ready .any ops listed) (hd : Down ops listed) (hl : isLoad oi = true) : AllStrict X ops listed := by
  intro m hm
  cases hs : strictOp X ops m with
  | true => rfl
  | false =>
    exfalso
    have hun := unlisted hr
    have hne : i ≠ m := by rintro rfl; rw [hun] at hm; cases hm
    have := hd.anc (strict_anc hs hi hl hne) hm
    rw [hun] at this
    cases this

include ok in
theorem early_sound {s s0 : St} {w w0 wa : World} {a : Act} {o : Oper} {n0 : Nat} {F : SV → Prop} (h : earlyVC K X s w0 n0 o F) (hr : Rel X N s w a wa)
    (hsh : ∀ i b t c, s0.bx i = some (.box b t c) → c.shape (X.T t) = true) (hb : isLoad o = true → ∀ i, i < n0 → s.bx i = s0.bx i) :
    ∃ v sv, RelV X s v sv ∧ F sv ∧ LP s sv ∧ ∀ w', (isLoad o = true → Was K s0 w0 n0 w') → (execOp a.eval o).run X.P w' = .ok (.value v) w' := by
  by_cases hl : isLoad o = true
  · unfold isLoad at hl
    cases hop : o.op <;> simp only [hop] at hl <;> try (cases hl; done)
    rename_i t x
    have hl : isLoad o = true := by simp [isLoad, hop]
    unfold earlyVC at h
    simp only [hop] at h
    split at h
    · rename_i p e1
      have hxv := hr.ev x _ e1
      simp only [RelV, SV.enc] at hxv
      obtain ⟨ad, rfl, h1⟩ := deref_iff.1 h
      -- the value does not depend on the world
      have hkin := h1
      obtain ⟨v, h2, h3, h4⟩ := loadVC_cells (kin_F h1)
      refine ⟨v.enc, v, (relv_shape h2).2 rfl, h3, (fun id off p e => by subst e; simp [SV.shape] at h2), fun w' hw' => ?_⟩
      obtain ⟨hu, _⟩ := hw' hl
      have h7 := cells_load ok (wa := w') h2 (loadVC_data (kin_F h1)) (ad := ad) (fun j u hj => hu.cell hkin (by simpa using h4 j u hj))
      simp [execOp, hop, hxv, h7]
    · rename_i id off p e1
      split at h
      · rename_i hid
        have hid : id < n0 := by simpa using hid
        unfold pureVC at h
        simp only [hop] at h
        rw [e1] at h
        simp only at h
        split at h
        · rename_i hli
          have hxv := hr.ev x _ e1
          obtain ⟨b, bt, c, g1, g2, g3⟩ := lIs_path hxv hli
          have g0 := hb hl id hid
          rw [g1] at g0
          have k3 := hsh id b bt c g0.symm
          have hD : isData (X.T t) = true := by
            obtain ⟨y, hy, hys, _⟩ := path_get k3 g3
            cases hT : X.T t <;> rw [hT] at hys <;> first | rfl | (cases y <;> simp [SV.shape] at hys)
          obtain ⟨y, h6, h7, pre, post, h8, h9, _⟩ := path_get k3 g3
          have hF : F y := by
            rw [g1] at h
            obtain ⟨z, h4, h5⟩ := ifSome_iff.1 h
            rw [h6] at h4
            obtain rfl : y = z := by simpa using h4
            exact h5
          refine ⟨y.enc, y, (relv_shape h7).2 rfl, hF, (fun id off p e => by subst e; simp [SV.shape] at h7), fun w' hw' => ?_⟩
          obtain ⟨_, hbx⟩ := hw' hl
          obtain ⟨z, k4, rfl, k6⟩ := box_load (F := fun z => z = y) (wa := w') ok (fun b' t' c' hb' => by
            rw [g1] at hb'
            simp at hb'
            obtain ⟨rfl, rfl, rfl⟩ := hb'
            exact ⟨hbx id b bt c hid g0.symm, k3⟩) hxv hli hD (by rw [g1]; exact ifSome_iff.2 ⟨y, h6, rfl⟩)
          simp [execOp, hop, k6]
        · cases h
      · cases h
    · cases h
  · have hl : isLoad o = false := by simpa using hl
    have hp : pureVC X s o F := by
      unfold earlyVC at h
      split at h
      · rename_i t x hop
        simp [isLoad, hop] at hl
      · exact h
    obtain ⟨v, sv, h1, h2, h3, h4⟩ := pure_sound ok hr.ev hl hp
    exact ⟨v, sv, h1, h2, h3, fun w' _ => h4 w'⟩

/-- where a tree stands -/
structure At (K : Option (List Nat)) (X : Tab) (N : Nat) (ops : Array Oper) (s0 : St) (w0 : World) (a0 : Act) (listed : Array Bool) (s : St) (w : World) (a : Act) (wa : World) : Prop where
  rel : Rel X N s w a wa
  fr : Fr (opsW ops.toList) a0 a
  down : Down ops listed
  nb : s0.nb ≤ s.nb
  base : Was0 K w0 w0
  was : AllStrict X ops listed → Was0 K w0 wa ∧ ∀ i, i < s0.nb → s.bx i = s0.bx i

theorem At.C {s0 : St} {w0 : World} {a0 : Act} {listed : Array Bool} {s : St} {w : World} {a : Act} {wa : World} (h : At K X N ops s0 w0 a0 listed s w a wa) (hs : AllStrict X ops listed) : Was K s0 w0 s0.nb wa := by
  obtain ⟨h1, h2⟩ := h.was hs
  exact ⟨h1, fun i b t c hi hb => (h.rel.bx i b t c (by rw [h2 i hi]; exact hb)).2.1⟩

theorem allStrict_set {listed : Array Bool} {i : Nat} (h : AllStrict X ops (listed.setIfInBounds i true)) : AllStrict X ops listed := fun m hm => h m (getD_set_true hm)
theorem strict_set {listed : Array Bool} {i : Nat} (hr : i ∈ Region.ready .any ops listed) (h : AllStrict X ops (listed.setIfInBounds i true)) : strictOp X ops i = true := h i (by
  have : listed.getD i true = false := (mem_ready.1 hr).1
  rcases Nat.lt_or_ge i listed.size with h' | h'
  · simp [h']
  · simp [Array.getElem?_eq_none h'] at this)

theorem fr_op {i : Nat} {o : Oper} (hi : ops[i]? = some o) {a0 a : Act} (h : Fr (opsW ops.toList) a0 a) (v : Value) : Fr (opsW ops.toList) a0 (a.put o.dst v) :=
  (h.trans (Fr.put a o.dst v)).mono (fun t ht => by
    rcases List.mem_append.1 ht with ht | ht
    · exact ht
    · exact mem_opsW (o := o) (List.mem_of_getElem? (i := i) (by simpa using hi)) (by simpa using ht))

theorem oneAnd_iff {α : Type} {r : List α} {A B : Prop} : oneAnd r A B → A ∧ (r = [] ∨ B) := by
  cases r with
  | nil => exact fun h => ⟨h, .inl rfl⟩
  | cons x r => exact fun h => ⟨h.1, .inr h.2⟩

include ok in
theorem tree_sound {s0 : St} {w0 : World} {a0 : Act} {k : St → World → Prop} (hs : Region.noSelect ops = true) (hN : ∀ t ∈ opsW ops.toList, t < N)
    (hsh : ∀ i b t c, s0.bx i = some (.box b t c) → c.shape (X.T t) = true)
    (hQ : ∀ c a w, ¬ Q (.panic c) a w) (hO : ∀ a w, ¬ Q .outgrown a w)
    (hk : ∀ s w a wa, k s w → Rel X N s w a wa → Fr (opsW ops.toList) a0 a → Q .normal a wa) :
    ∀ (t : Tree) (n : Nat) (listed : Array Bool) (s : St) (w : World) (a : Act) (wa : World), okFrom ops t n listed = true → treeVC K X ops.toList w0 s0.nb t s w k →
      At K X N ops s0 w0 a0 listed s w a wa → wpAnyC X (Was K s0 w0 s0.nb) ops Q n listed a wa := by
  intro t
  induction t using Tree.rec (motive_2 := fun l => ∀ (n : Nat) (listed : Array Bool) (is : List Nat) (s : St) (w : World) (a : Act) (wa : World), okFork ops l n listed is = true → forkVC K X ops.toList w0 s0.nb l s w k →
      At K X N ops s0 w0 a0 listed s w a wa → (∀ i ∈ is, i ∈ Region.ready .any ops listed) →
      ∀ i ∈ is, wpOp X.P ops Q i (fun a' w' => (strictOp X ops i = true → AllStrict X ops listed → Was K s0 w0 s0.nb w') ∧ wpAnyC X (Was K s0 w0 s0.nb) ops Q n (listed.setIfInBounds i true) a' w') a wa)
      (motive_3 := fun p => ∀ (n : Nat) (listed : Array Bool) (s : St) (w : World) (a : Act) (wa : World), okFrom ops p.2 n listed = true → treeVC K X ops.toList w0 s0.nb p.2 s w k →
      At K X N ops s0 w0 a0 listed s w a wa → wpAnyC X (Was K s0 w0 s0.nb) ops Q n listed a wa) with
  | done =>
    intro n listed s w a wa ho h hat
    simp only [okFrom, Bool.and_eq_true] at ho
    obtain rfl := nbeq.1 ho.1
    simp only [treeVC] at h
    exact ⟨by simpa using ho.2, hk s w a wa h hat.rel hat.fr⟩
  | early i t ih =>
    intro n listed s w a wa ho h hat
    cases n with
    | zero => simp [okFrom] at ho
    | succ n =>
      simp only [okFrom, Bool.and_eq_true] at ho
      obtain ⟨⟨h1, h2⟩, h3⟩ := ho
      have hr : i ∈ Region.ready .any ops listed := by simpa using h1
      simp only [treeVC, nth_eq, Array.getElem?_toList] at h
      cases hi : ops[i]? with
      | none => rw [hi] at h; cases h
      | some o =>
        rw [hi] at h
        simp only at h
        split at h
        case h_2 => cases h
        rename_i hq
        have hst : strictOp X ops i = true := by simp [strictOp, hi, hq]
        have hg := guard_sound h hat.rel
        have hd : ∀ t, o.dst = some t → t < N := fun t ht => hN t (mem_opsW (o := o) (List.mem_of_getElem? (i := i) (by simpa using hi)) ht)
        cases hw : Region.wanted o (yielded ops a.tmps) with
        | true =>
          obtain ⟨s1, hy, hr1, hb1, hn1, hm1⟩ := hg.1 hw
          have hbl : isLoad o = true → ∀ i, i < s0.nb → s1.bx i = s0.bx i := fun hl => by
            rw [hb1]
            exact (hat.was (load_allStrict hi hr hat.down hl)).2
          obtain ⟨v, sv, g1, g2, g3, g4⟩ := early_sound ok hy hr1 hsh hbl
          refine wpAnyC_first hi (Region.noSelect_spec hs) hQ hO hst n listed a wa (Region.free_spec hi h2) hr hat.down hat.C (v := v) (.inl ⟨hw, g4⟩) ?_
          refine ih n _ _ w _ wa h3 g2 ⟨hr1.putD hd g1 (lp_nb hr1 g3), fr_op hi hat.fr v, hat.down.set hr, by rw [putD_nb, hn1]; exact hat.nb, hat.base, fun hall => ?_⟩
          rw [putD_bx, hb1]
          exact hat.was (allStrict_set hall)
        | false =>
          obtain ⟨s1, hn, hr1, hb1, hn1, hm1⟩ := hg.2 hw
          refine wpAnyC_first hi (Region.noSelect_spec hs) hQ hO hst n listed a wa (Region.free_spec hi h2) hr hat.down hat.C (v := undef) (.inr ⟨hw, rfl⟩) ?_
          refine ih n _ _ w _ wa h3 hn ⟨hr1, fr_op hi hat.fr undef, hat.down.set hr, by rw [hn1]; exact hat.nb, hat.base, fun hall => ?_⟩
          rw [hb1]
          exact hat.was (allStrict_set hall)
  | fork l ih =>
    intro n listed s w a wa ho h hat
    cases n with
    | zero => simp [okFrom] at ho
    | succ n =>
      simp only [okFrom] at ho
      cases l with
      | nil => simp [treeVC] at h
      | cons p l =>
        simp only [treeVC] at h
        refine ⟨fun he => ?_, fun i hi => ih n listed _ s w a wa ho h hat (fun _ h => h) i hi⟩
        rw [he] at ho
        simp [okFork] at ho
  | nil =>
    rename_i n listed is s w a wa ho h hat hrd i hi
    cases is with
    | nil => cases hi
    | cons j is => simp [okFork] at ho
  | cons p l ihp ihl =>
    rename_i n listed is s w a wa ho h hat hrd i hi
    obtain ⟨j, t⟩ := p
    cases is with
    | nil => simp [okFork] at ho
    | cons x is =>
      simp only [okFork, Bool.and_eq_true] at ho
      obtain ⟨⟨h1, h2⟩, h3⟩ := ho
      obtain rfl := nbeq.1 h1
      simp only [forkVC] at h
      obtain ⟨hA, hB⟩ := oneAnd_iff h
      rcases List.mem_cons.1 hi with rfl | hi
      · have hr := hrd i (by simp)
        have hd' := hat.down.set hr
        simp only [nth_eq, Array.getElem?_toList] at hA
        unfold wpOp
        cases hio : ops[i]? with
        | none => rw [hio] at hA; cases hA
        | some o =>
          rw [hio] at hA
          simp only at hA ⊢
          have hg := guard_sound hA hat.rel
          have hd : ∀ t, o.dst = some t → t < N := fun t ht => hN t (mem_opsW (o := o) (List.mem_of_getElem? (i := i) (by simpa using hio)) ht)
          cases hw : Region.wanted o (yielded ops a.tmps) with
          | true =>
            simp only [if_true]
            left
            obtain ⟨s1, hy, hr1, hb1, hn1, hm1⟩ := hg.1 hw
            refine Oper.wp_mono ?_ (opVC_sound ok (Q := Q) hy hr1 hd)
            rintro a' wa' ⟨s', w', g1, g2, g3, g4, v, rfl⟩
            cases hst : strictOp X ops i with
            | true =>
              have hst' : (racesWith ops.toList i || quiet X o) = true := by simpa [strictOp, hio] using hst
              rw [hst'] at g1
              simp only [strictVC] at g1
              split at g1
              · cases g1
              · rename_i hse
                simp only [Bool.or_eq_false_iff] at hse
                split at g1
                · rename_i hmods
                  obtain ⟨g11, g12⟩ := knew_iff g1 hat.base
                  have hup : Was0 K w0 wa' := g11.trans (by have := g2.upd; rw [hmods] at this; exact this.mono (by simp) (by simp))
                  have hat' : At K X N ops s0 w0 a0 (listed.setIfInBounds i true) s' w' (a.put o.dst v) wa' := ⟨g2, fr_op hio hat.fr v, hd', by have := hat.nb; omega, hat.base, fun hall =>
                    ⟨hup, fun i' hi' => by rw [g4 hse.1 hse.2 i' (by rw [hn1]; have := hat.nb; omega), hb1]; exact (hat.was (allStrict_set hall)).2 i' hi'⟩⟩
                  refine ⟨fun _ hall => hat'.C (fun m hm => ?_), ihp n _ s' w' _ wa' h2 g12 hat'⟩
                  rcases getD_set_iff hm with rfl | hm
                  · exact hst
                  · exact hall m hm
                · cases g1
            | false =>
              have hst' : (racesWith ops.toList i || quiet X o) = false := by simpa [strictOp, hio] using hst
              rw [hst'] at g1
              refine ⟨(fun e => by cases e), ihp n _ s' w' _ wa' h2 g1 ⟨g2, fr_op hio hat.fr v, hd', by have := hat.nb; omega, hat.base, fun hall => ?_⟩⟩
              rw [strict_set hr hall] at hst
              cases hst
          | false =>
            simp only [Bool.false_eq_true, if_false]
            obtain ⟨s1, hn, hr1, hb1, hn1, hm1⟩ := hg.2 hw
            refine ⟨fun _ hall => hat.C hall, ihp n _ s1 w _ wa h2 hn ⟨hr1, fr_op hio hat.fr undef, hd', by rw [hn1]; exact hat.nb, hat.base, fun hall => ?_⟩⟩
            rw [hb1]
            exact hat.was (allStrict_set hall)
      · rcases hB with rfl | hB
        · cases is with
          | nil => cases hi
          | cons y is => simp [okFork] at h3
        · exact ihl n listed is s w a wa h3 hB hat (fun m hm => hrd m (by simp [hm])) i hi
  | mk i t ih => rename_i n listed s w a wa h1 h2 h3; exact ih _ _ _ _ _ _ h1 h2 h3
end
end Go.Vc
end

section
namespace Go.Vc
open Go.RowKit (Below)
set_option linter.unusedSimpArgs false
set_option linter.unusedVariables false
set_option autoImplicit false

theorem same_boxes {s1 s : St} : ∀ {bs : List Nat} {F : Prop}, sameBoxes s1 s bs F → (∀ i ∈ bs, s1.bx i = s.bx i) ∧ F
  | [], F, h => ⟨by simp, h⟩
  | i :: r, F, h => by
    simp only [sameBoxes] at h
    obtain ⟨h1, h2⟩ := same_boxes h.2
    refine ⟨fun j hj => ?_, h2⟩
    rcases List.mem_cons.1 hj with rfl | hj
    · exact h.1
    · exact h1 j hj
theorem same_nums {s1 s : St} : ∀ {ks : List (Key × Ty)} {F : Prop}, sameNums s1 s ks F → (∀ n t, (Key.b n, t) ∈ ks → boxBT (s1.bx n) = boxBT (s.bx n)) ∧ F
  | [], F, h => ⟨by simp, h⟩
  | (.t m, ty) :: r, F, h => by
    simp only [sameNums] at h
    obtain ⟨h1, h2⟩ := same_nums h
    refine ⟨fun n t hj => ?_, h2⟩
    rcases List.mem_cons.1 hj with hj | hj
    · cases hj
    · exact h1 n t hj
  | (.b m, ty) :: r, F, h => by
    simp only [sameNums] at h
    obtain ⟨h1, h2⟩ := same_nums h.2
    refine ⟨fun n t hj => ?_, h2⟩
    rcases List.mem_cons.1 hj with hj | hj
    · cases hj; exact h.1
    · exact h1 n t hj

theorem least {S : Nat → Prop} (h : ∃ n, S n) : ∃ n, S n ∧ ∀ m, S m → n ≤ m := by
  obtain ⟨n, hn⟩ := h
  induction n using Nat.strongRecOn with
  | _ n ih =>
    by_cases hm : ∃ m, m < n ∧ S m
    · obtain ⟨m, h1, h2⟩ := hm
      exact ih m h1 h2
    · exact ⟨n, hn, fun m hm' => Nat.le_of_not_lt fun hlt => hm ⟨m, hlt, hm'⟩⟩

section
variable {X : Tab} (ok : TabOK X) {N : Nat}

theorem Post.mono {k k' : St → World → Prop} {ex ex' : Nat → St → World → Prop} {ret ret' : St → World → Prop} {W W' : List Nat} {a0 a0' : Act}
    (hf : ∀ a, Fr W a0 a → Fr W' a0' a) {e : Exit} {a : Act} {w : World}
    (h : Post X N k ex ret W a0 e a w) (hk : ∀ s w, k s w → k' s w) (hex : ∀ i s w, ex i s w → ex' i s w) (hret : ∀ s w, ret s w → ret' s w) : Post X N k' ex' ret' W' a0' e a w := by
  cases e <;> simp only [Post] at h ⊢
  case normal => obtain ⟨⟨s, w, h1, h2⟩, h3⟩ := h; exact ⟨⟨s, w, hk _ _ h1, h2⟩, hf _ h3⟩
  case exit i => obtain ⟨⟨s, w, h1, h2⟩, h3⟩ := h; exact ⟨⟨s, w, hex _ _ _ h1, h2⟩, hf _ h3⟩
  case ret => obtain ⟨s, w, h1, h2⟩ := h; exact ⟨s, w, hret _ _ h1, h2⟩

/-- the parts behind a piece of code -/
theorem Post.then {b : Code} {k1 k : St → World → Prop} {ex : Nat → St → World → Prop} {ret : St → World → Prop} {W W' : List Nat} {a0 : Act}
    (hb : ∀ s w a wa, k1 s w → Rel X N s w a wa → Fr W a0 a → b.wp X.P (Post X N k ex ret W' a) a wa) :
    ∀ e a wa, Post X N k1 ex ret W a0 e a wa → Exit.then (b.wp X.P (Post X N k ex ret (W ++ W') a0)) (Post X N k ex ret (W ++ W') a0) e a wa := by
  intro e a wa h
  cases e <;> simp only [Post, Exit.then] at h ⊢
  case normal =>
    obtain ⟨⟨s, w, h1, h2⟩, h3⟩ := h
    exact wp_mono (hb s w a wa h1 h2 h3) (fun e a' w' hp => hp.mono (fun a'' hf => h3.trans hf) (fun _ _ h => h) (fun _ _ _ h => h) (fun _ _ h => h))
  case exit i => exact ⟨h.1, h.2.mono (by simp; intro t ht; exact .inl ht)⟩
  case ret => exact h

include ok in
theorem vc_sound : ∀ (c : Code) (n : Ann) (s : St) (w : World) (a : Act) (wa : World) (k : St → World → Prop) (ex : Nat → St → World → Prop) (ret : St → World → Prop),
    vc X c n s w k ex ret → Rel X N s w a wa → (∀ t ∈ codeW c, t < N) → c.wp X.P (Post X N k ex ret (codeW c) a) a wa := by
  intro c
  induction c with
  | skip =>
    intro n s w a wa k ex ret h hr hN
    simp only [vc] at h
    exact wp_skip ⟨⟨s, w, h, hr⟩, Fr.refl _ _⟩
  | region id ops draw =>
    intro n s w a wa k ex ret h hr hN
    simp only [codeW] at hN ⊢
    cases draw with
    | false =>
      simp only [vc] at h
      exact wp_region_list (opsVC_sound ok h hr hN (fun s' w' a' wa' h1 h2 h3 => ⟨⟨s', w', h1, h2⟩, h3⟩))
    | true =>
      have main : ∀ (K : Option (List Nat)) (t : Tree) (s' : St) (w' : World), Was0 K w' w' → okTree ops t = true → treeVC K X ops.toList w' s'.nb t { s' with dirty := true } w' k → Rel X N s' w' a wa → Upd [] [] w' wa → s'.mods = [] → (Code.region id ops true).wp X.P (Post X N k ex ret (opsW ops.toList) a) a wa := by
        intro K t s' w' hbase hok h1 h2 h3 h7
        simp only [okTree, Bool.and_eq_true] at hok
        refine wp_region_any ok.mixed (wpAny_of_C _ _ _ _ (tree_sound ok (K := K) (s0 := { s' with dirty := true }) (w0 := w') (a0 := a) (k := k) hok.1 hN
          (fun i b t c hb => (h2.bx i b t c hb).2.2) (fun _ _ _ h => h) (fun _ _ h => h) (fun s w a wa g1 g2 g3 => ⟨⟨s, w, g1, g2⟩, g3⟩) t _ _ _ w' a _ hok.2 h1 ?_))
        exact ⟨h2.drew, Fr.refl _ _, (fun i o _ hi => by
          rw [Array.getD_eq_getD_getElem?, Array.getElem?_replicate] at hi
          split at hi <;> simp at hi), Nat.le_refl _, hbase, fun _ => ⟨hbase.trans h3.drew, fun _ _ => rfl⟩⟩
      cases n <;> simp only [vc] at h <;> try (cases h; done)
      case draw t =>
        split at h
        · rename_i hok
          obtain ⟨s', w', h1, h2, h3, h4, h5, h6, h7⟩ := look_sound h hr
          exact main none t s' w' (Upd.refl _) hok h1 h2 h3 h7
        · cases h
      case drawF ids t =>
        split at h
        · rename_i hok
          have h1 := flush_sound h hr
          obtain ⟨s', h2, h3, h4, h5⟩ := escs_sound h1 (by exact hr.clean.clean) rfl
          refine main none t s' wa (Upd.refl _) hok h2 h3 (Upd.refl _) (by rw [← h4]; rfl)
        · cases h
      case drawK ids t =>
        split at h
        · rename_i hok
          have h1 := flush_sound h hr
          obtain ⟨s', h2, h3, h4, h5⟩ := escs_sound h1 (by exact hr.clean.clean) rfl
          obtain ⟨bs, h6, h2⟩ := h2
          refine main (some bs) t s' wa ⟨h6, fun _ _ => rfl⟩ hok h2 h3 (Upd.refl _) (by rw [← h4]; rfl)
        · cases h
  | seq x y ihx ihy =>
    intro n s w a wa k ex ret h hr hN
    simp only [codeW, List.mem_append] at hN ⊢
    cases n <;> simp only [vc] at h <;> try (cases h; done)
    case seq na nb =>
      refine wp_seq (wp_mono (ihx na s w a wa _ ex ret h hr (fun t ht => hN t (.inl ht))) (Post.then fun s1 w1 a1 wa1 g1 g2 _ => ihy nb s1 w1 a1 wa1 k ex ret g1 g2 (fun t ht => hN t (.inr ht))))
    case cut ks bs na nb =>
      have h := h (Ty.curs (tysOf ks) fun l w1 => vc X y nb ((s.forget (codeW x) ks bs).setAll ks l) w1 k ex ret) (by
        refine (alls_fits _ _).2 fun l hl w1 hv => ?_
        unfold appL
        rw [apps_curs _ _ l hl]
        exact hv)
      refine wp_seq (wp_mono (ihx na s w a wa _ ex ret h hr (fun t ht => hN t (.inl ht))) (Post.then fun s1 w1 a1 wa1 g1 g2 g3 => ?_))
      have g1 := flush_sound g1 g2
      obtain ⟨k1, g1⟩ := same_boxes g1
      obtain ⟨k2, g1⟩ := same_nums g1
      unfold appJ at g1
      split at g1
      · rename_i l hl
        split at g1
        · rename_i F hF
          have hfit := apps_fits _ _ _ _ hF
          rw [apps_curs _ _ l hfit] at hF
          obtain rfl := Option.some.inj hF
          exact ihy nb _ _ a1 wa1 k ex ret g1 (hr.forget g2.clean g3 k1 k2 hl hfit) (fun t ht => hN t (.inr ht))
        · cases g1
      · cases g1
  | cond c x y ihx ihy =>
    intro n s w a wa k ex ret h hr hN
    simp only [codeW, List.mem_append] at hN ⊢
    cases n <;> simp only [vc] at h <;> try (cases h; done)
    case cond na nb =>
      have mono1 : ∀ e a' w', Post X N k ex ret (codeW x) a e a' w' → Post X N k ex ret (codeW x ++ codeW y) a e a' w' := fun e a' w' hp => hp.mono (fun _ hf => hf.mono (by simp; intro t ht; exact .inl ht)) (fun _ _ h => h) (fun _ _ _ h => h) (fun _ _ h => h)
      have mono2 : ∀ e a' w', Post X N k ex ret (codeW y) a e a' w' → Post X N k ex ret (codeW x ++ codeW y) a e a' w' := fun e a' w' hp => hp.mono (fun _ hf => hf.mono (by simp; intro t ht; exact .inr ht)) (fun _ _ h => h) (fun _ _ _ h => h) (fun _ _ h => h)
      split at h
      · rename_i t
        split at h
        · rename_i v hv
          have hev : a.eval (.tmp t) = .bool v := by
            have := hr.ev (.tmp t) _ hv
            simpa only [RelV, SV.enc] using this
          refine wp_cond_split hev (fun e => ?_) (fun e => ?_)
          · subst e
            exact wp_mono (ihx na _ w a wa k ex ret h (hr.known hv) (fun t ht => hN t (.inl ht))) mono1
          · subst e
            exact wp_mono (ihy nb _ w a wa k ex ret h (hr.known hv) (fun t ht => hN t (.inr ht))) mono2
        · cases h
      · rename_i v
        refine wp_cond_split (t := v) rfl (fun e => ?_) (fun e => ?_)
        · subst e
          exact wp_mono (ihx na _ w a wa k ex ret h hr (fun t ht => hN t (.inl ht))) mono1
        · subst e
          exact wp_mono (ihy nb _ w a wa k ex ret h hr (fun t ht => hN t (.inr ht))) mono2
      · cases h
  | block id x ihx =>
    intro n s w a wa k ex ret h hr hN
    simp only [codeW] at hN ⊢
    cases n <;> simp only [vc] at h <;> try (cases h; done)
    rename_i nx
    refine wp_block (wp_mono (ihx nx s w a wa _ _ ret h hr hN) ?_)
    intro e a' w' hp
    cases e <;> simp only [Post, Exit.inBlock] at hp ⊢
    case normal => exact hp
    case ret => exact hp
    case exit i =>
      obtain ⟨⟨s1, w1, h1, h2⟩, h3⟩ := hp
      by_cases hid : i = id
      · rw [if_pos hid]
        rw [nbeq.2 hid] at h1
        exact ⟨⟨s1, w1, h1, h2⟩, h3⟩
      · rw [if_neg hid]
        rw [nbeq_false.2 hid] at h1
        exact ⟨⟨s1, w1, h1, h2⟩, h3⟩
  | loop x ihx =>
    intro n s w a wa k ex ret h hr hN
    simp only [codeW] at hN ⊢
    have main : ∀ (ks : List (Key × Ty)) (bs : List Nat) (nx : Ann) (s : St) (w : World), loopVC ks bs (codeW x) (fun s w kk => vc X x nx s w kk ex ret) s w → Rel X N s w a wa → (Code.loop x).wp X.P (Post X N k ex ret (codeW x) a) a wa := by
      intro ks bs nx s w h hr
      obtain ⟨I, M, h0, hrd⟩ := h
      have h0 := flush_sound h0 hr
      -- what holds at the head
      let InvL : List SV → Act → World → Prop := fun l a' wa' => fitsL (tysOf ks) l ∧ appL ks I l wa' ∧ Rel X N ((s.forget (codeW x) ks bs).setAll ks l) wa' a' wa'
      let S : Act → World → Nat → Prop := fun a' wa' n => ∃ l, InvL l a' wa' ∧ meas ks M l wa' = n
      let Inv : Act → World → Prop := fun a' wa' => (∃ n, S a' wa' n) ∧ Fr (codeW x) a a'
      have μ : ∃ μ : Act → World → Nat, ∀ a' wa', (∃ n, S a' wa' n) → S a' wa' (μ a' wa') ∧ ∀ m, S a' wa' m → μ a' wa' ≤ m := by
        refine ⟨fun a' wa' => open Classical in if h : ∃ n, S a' wa' n then Classical.choose (least h) else 0, fun a' wa' h => ?_⟩
        simp only [dif_pos h]
        exact Classical.choose_spec (least h)
      obtain ⟨μ, hμ⟩ := μ
      have enter : ∀ {s1 : St} {w1 : World} {a1 : Act} {wa1 : World}, appJ ks I s1 wa1 → Rel X N s1 wa1 a1 wa1 → Fr (codeW x) a a1 → (∀ i ∈ bs, s1.bx i = s.bx i) → (∀ n t, (Key.b n, t) ∈ ks → boxBT (s1.bx n) = boxBT (s.bx n)) →
          ∃ l, s1.get ks = some l ∧ InvL l a1 wa1 := by
        intro s1 w1 a1 wa1 g1 g2 g3 k1 k2
        unfold appJ at g1
        split at g1
        · rename_i l hl
          split at g1
          · rename_i F hF
            have hfit := apps_fits _ _ _ _ hF
            exact ⟨l, hl, hfit, by unfold appL; rw [hF]; exact g1, hr.forget g2 g3 k1 k2 hl hfit⟩
          · cases g1
        · cases g1
      refine wp_loop Inv μ ?_ ?_
      · obtain ⟨l, _, hl⟩ := enter (w1 := w) h0 hr.clean (Fr.refl _ _) (fun _ _ => rfl) (fun _ _ _ => rfl)
        exact ⟨⟨_, l, hl, rfl⟩, Fr.refl _ _⟩
      · rintro a1 wa1 ⟨hS, hfr⟩
        obtain ⟨⟨l, ⟨hfit, hI, hrel⟩, hm⟩, _⟩ := hμ a1 wa1 hS
        have hv := (alls_fits _ _).1 hrd l hfit wa1 hI
        refine wp_mono (ihx nx _ wa1 a1 wa1 _ ex ret hv hrel hN) ?_
        intro e a2 wa2 hp
        cases e <;> simp only [Post, Exit.then] at hp ⊢
        case normal =>
          obtain ⟨⟨s2, w2, g1, g2⟩, g3⟩ := hp
          have g1 := flush_sound g1 g2
          obtain ⟨k1, g1⟩ := same_boxes g1
          obtain ⟨k2, g1⟩ := same_nums g1
          have hfr2 : Fr (codeW x) a a2 := (hfr.trans g3).mono (by simp)
          obtain ⟨l2, hl2, hinv⟩ := enter (w1 := w2) g1.1 g2.clean hfr2 k1 k2
          refine ⟨⟨⟨_, l2, hinv, rfl⟩, hfr2⟩, ?_⟩
          have hle := (hμ a2 wa2 ⟨_, l2, hinv, rfl⟩).2 _ ⟨l2, hinv, rfl⟩
          have hlt : meas ks M l2 wa2 < meas ks M l wa1 := by
            have hM := g1.2
            unfold appM at hM
            rw [hl2] at hM
            simp only at hM
            split at hM
            · rename_i F hF
              unfold meas
              rw [hF]
              exact hM
            · cases hM
          rw [hm] at hlt
          exact Nat.lt_of_le_of_lt hle hlt
        case exit i => exact ⟨hp.1, (hfr.trans hp.2).mono (by simp)⟩
        case ret => exact hp
    cases n <;> simp only [vc] at h <;> try (cases h; done)
    case loop ks bs nx => exact main ks bs nx s w h hr
    case loopF ids ks bs nx =>
      have h1 := flush_sound h hr
      obtain ⟨s', h2, h3, _, _⟩ := escs_sound h1 (by exact hr.clean.clean) rfl
      exact main ks bs nx s' wa h2 h3
  | scope x ihx =>
    intro n s w a wa k ex ret h hr hN
    simp only [codeW] at hN ⊢
    simp only [vc] at h
    refine wp_scope_straight (wp_mono (ihx n s w a wa k ex ret h hr hN) ?_)
    intro e a' w' hp
    cases e <;> first | exact hp | exact hp.elim
  | label l =>
    intro n s w a wa k ex ret h hr hN
    simp only [vc] at h
    exact wp_label ⟨⟨s, w, h, hr⟩, Fr.refl _ _⟩
  | exit id =>
    intro n s w a wa k ex ret h hr hN
    simp only [vc] at h
    exact wp_exit ⟨⟨s, w, h, hr⟩, Fr.refl _ _⟩
  | ret =>
    intro n s w a wa k ex ret h hr hN
    simp only [vc] at h
    exact wp_ret ⟨s, w, h, hr⟩
  | _ => intro n s w a wa k ex ret h; simp only [vc] at h
end
end Go.Vc
end

section
namespace Go.Vc
open Go.RowKit (Below)
set_option linter.unusedSimpArgs false
set_option linter.unusedVariables false
set_option autoImplicit false

/-- one result of a call -/
def resOne (tmps : Array Value) : ResultVar → Sem Value
  | .tmp t => pure (tmps.getD t undef)
  | .cell a t => do loadVar t (← asAddr (tmps.getD a undef))

section
variable {X : Tab} (ok : TabOK X) {N : Nat}

include ok in
theorem resSV_run {s : St} {w : World} {a : Act} {wa : World} (hr : Rel X N s w a wa) : ∀ {rs : List ResultVar} {l : List SV}, resSV X s rs = some l → allPlain l = true →
    (rs.mapM (resOne a.tmps)).run X.P wa = .ok (SV.encL l) wa
  | [], l, h, _ => by
    simp only [resSV, Option.some.injEq] at h
    subst h
    simp [SV.encL]
  | .tmp t :: r, l, h, hp => by
    simp only [resSV] at h
    split at h
    · rename_i x l' h1 h2
      obtain rfl : x :: l' = l := by simpa using h
      simp only [allPlain, Bool.and_eq_true] at hp
      have ih := resSV_run hr h2 hp.2
      have hx := (relv_plain hp.1).1 (hr.env t x h1)
      simp only [List.mapM_cons, Sem.run_bind, resOne, Sem.run_pure, Result.andThen_ok, ih, hx, SV.encL]
    · cases h
  | .cell b t :: r, l, h, hp => by
    simp only [resSV] at h
    split at h
    · rename_i id off p l' h1 h2
      split at h
      · rename_i hli
        split at h
        · rename_i bb bt c hb
          split at h
          · rename_i x hx
            obtain rfl : x :: l' = l := by simpa using h
            simp only [allPlain, Bool.and_eq_true] at hp
            have ih := resSV_run hr h2 hp.2
            have hv := hr.env b _ h1
            obtain ⟨b2, bt2, c2, g1, g2, g3⟩ := lIs_path hv hli
            rw [hb] at g1
            simp at g1
            obtain ⟨rfl, rfl, rfl⟩ := g1
            obtain ⟨_, _, k3⟩ := hr.bx id bb bt c hb
            have hD : isData (X.T t) = true := by
              obtain ⟨y, hy, hys, _⟩ := path_get k3 g3
              cases hT : X.T t <;> rw [hT] at hys <;> first | rfl | (cases y <;> simp [SV.shape] at hys)
            obtain ⟨z, k4, rfl, k6⟩ := box_load (F := fun z => z = x) (wa := wa) ok (fun b' t' c' hb' => (hr.bx _ b' t' c' hb').2) hv hli hD (by rw [hb]; exact ifSome_iff.2 ⟨x, hx, rfl⟩)
            rw [g2] at k6
            have k7 : (loadVar t ⟨bb, off, none⟩).run X.P wa = .ok z.enc wa := by
              simpa [Instr.loadAt, Instr.sureAddr] using k6
            simp only [List.mapM_cons, Sem.run_bind, resOne, g2, asAddr, Sem.run_pure, Result.andThen_ok, k7, ih, SV.encL]
          · cases h
        · cases h
      · cases h
    · cases h

theorem encL_length (l : List SV) : (SV.encL l).length = l.length := by rw [encL_eq]; simp

include ok in
theorem results_run {s : St} {w : World} {a : Act} {wa : World} (hr : Rel X N s w a wa) {fn : Func} {l : List SV} (h : resSV X s fn.results.toList = some l) (hp : allPlain l = true) :
    (results fn a.tmps).run X.P wa = .ok (oneOf l).enc wa := by
  have h1 := resSV_run ok hr h hp
  have h2 : (fn.results.mapM (resOne a.tmps)).run X.P wa = .ok (SV.encL l).toArray wa := by
    rw [Array.mapM_eq_mapM_toList, ← bind_pure_comp, Sem.run_bind, h1]
    simp
  have h3 : results fn a.tmps = (do let vs ← fn.results.mapM (resOne a.tmps); pure (if h : vs.size = 1 then vs[0] else .tuple vs)) := by
    unfold results
    congr 1
  rw [h3, Sem.run_bind, h2]
  simp only [Result.andThen_ok, Sem.run_pure]
  congr 1
  match l with
  | [] => simp [oneOf, SV.enc, SV.encL]
  | [x] => simp [oneOf, SV.encL]
  | x :: y :: r => simp [oneOf, SV.enc, SV.encL]

theorem argsEnv_get : ∀ (l : List SV) (i u : Nat) (v : SV), argsEnv l i u = some v → i ≤ u ∧ l[u - i]? = some v
  | [], i, u, v, h => by simp [argsEnv] at h
  | x :: r, i, u, v, h => by
    simp only [argsEnv] at h
    split at h
    · rename_i e
      have := nbeq.1 e
      subst this
      simp at h
      simp [h]
    · rename_i e
      have hne := nbeq_false.1 e
      obtain ⟨h1, h2⟩ := argsEnv_get r (i + 1) u v h
      refine ⟨by omega, ?_⟩
      rw [show u - i = (u - (i + 1)) + 1 by omega]
      simpa using h2

theorem allPlain_mem : ∀ {l : List SV}, allPlain l = true → ∀ x ∈ l, plain x = true
  | [], _, x, h => by cases h
  | y :: r, hp, x, h => by
    simp only [allPlain, Bool.and_eq_true] at hp
    rcases List.mem_cons.1 h with rfl | h
    · exact hp.1
    · exact allPlain_mem hp.2 x h

/-- the temporaries that the code writes are the function's -/
def writesOK (fn : Func) : Bool := match fn.body with | some c => (codeW c).all fun t => Nat.blt t fn.ntmps | none => false

/-- the beginning of a call -/
theorem start_rel (hD : X.D = []) {args : List SV} (hp : allPlain args = true) (w : World) (n : Nat) :
    Rel X (((SV.encL args).toArray ++ Array.replicate n undef).size) (start args) w { tmps := (SV.encL args).toArray ++ Array.replicate n undef, defers := [] } w where
  defers := hD.symm
  size := rfl
  env := fun t v hv => by
    simp only [start] at hv
    obtain ⟨_, hg⟩ := argsEnv_get args 0 t v hv
    simp only [Nat.sub_zero] at hg
    have hpl := allPlain_mem hp v (List.mem_of_getElem? hg)
    refine (relv_plain hpl).2 ?_
    have hlt : t < args.length := (List.getElem?_eq_some_iff.1 hg).1
    simp only [Array.getD_eq_getD_getElem?]
    rw [Array.getElem?_append_left (by simp [encL_length]; exact hlt)]
    simp [encL_eq, hg]
  bx := fun i b t c hb => by simp [start] at hb
  sep := fun i j b t c b' t' c' hb => by simp [start] at hb
  lp := fun u id off p hu => by
    simp only [start] at hu
    obtain ⟨_, hg⟩ := argsEnv_get args 0 u _ hu
    have hpl := allPlain_mem hp _ (List.mem_of_getElem? hg)
    simp [plain] at hpl
  nb0 := Nat.le_refl _
  newIn := fun i b t c hb => by simp [start] at hb
  modIn := fun i b t c hb => by simp [start] at hb
  idlt := by simp [start]
  upd := Upd.refl w
  cln := fun _ => rfl

include ok in
/-- the end of a call -/
theorem fin_run {N : Nat} {fn : Func} {R : SV → World → Prop} {s : St} {w1 : World} {a1 : Act} {wa1 : World} (hh : finVC X fn R s w1) (hr1 : Rel X N s w1 a1 wa1) :
    ∃ v, (results fn a1.tmps).run X.P wa1 = .ok v wa1 ∧ (∃ r, (Ending.returned v) = .returned r.enc ∧ R r wa1) := by
  unfold finVC at hh
  split at hh
  · obtain ⟨s', w', g1, g2, _⟩ := esc_sound hh hr1
    have g3 := flush_sound g1 g2
    split at g3
    · rename_i l hl
      split at g3
      · rename_i hpl
        exact ⟨_, results_run ok g2.clean hl hpl, _, rfl, g3⟩
      · cases g3
    · cases g3
  · cases hh

include ok in
theorem fnVC_sound {f : Nat} {fn : Func} {n : Ann} {args : List SV} {w : World} {R : SV → World → Prop} (h : fnVC X fn n args w R) (hf : X.P.funcs[f]? = some fn)
    (hW : writesOK fn = true) (hp : allPlain args = true) (hD : X.D = []) : Ret X.P f args w R := by
  unfold fnVC at h
  unfold writesOK at hW
  cases hb : fn.body with
  | none => rw [hb] at hW; cases hW
  | some c =>
    rw [hb] at h hW
    simp only at h hW
    unfold Ret
    refine calls_of_wp hf hb ?_
    have hrel := start_rel hD hp w (fn.ntmps - (SV.encL args).toArray.size)
    have hN : ∀ t ∈ codeW c, t < ((SV.encL args).toArray ++ Array.replicate (fn.ntmps - (SV.encL args).toArray.size) undef).size := fun t ht => by
      have := List.all_eq_true.1 hW t ht
      simp at this
      simp [encL_length]
      omega
    have key := vc_sound ok c n (start args) w _ w _ _ _ h hrel hN
    refine wp_mono key ?_
    intro e a1 wa1 hpost
    cases e <;> simp only [Post, bodyPost] at hpost ⊢
    case normal =>
      obtain ⟨⟨s1, w1, h1, h2⟩, _⟩ := hpost
      exact ⟨h2.defers.trans hD, fin_run ok h1 h2⟩
    case ret =>
      obtain ⟨s1, w1, h1, h2⟩ := hpost
      exact ⟨h2.defers.trans hD, fin_run ok h1 h2⟩
    case exit i => exact hpost.1.elim fun s1 h => h.elim fun w1 h => h.1

/-! ### one deferred call -/
end
end Go.Vc
end

section
namespace Go.Vc
set_option linter.unusedSimpArgs false
set_option linter.unusedVariables false
set_option autoImplicit false

/-! ### the table of types is right: what the kernel counts -/
def sameCell : Value → Value → Bool
  | .int k n, .int k' n' => ksame k k' && decide (n = n')
  | .bool true, .bool true => true
  | .bool false, .bool false => true
  | .string s, .string s' => (match s, s' with | ⟨⟨[]⟩⟩, ⟨⟨[]⟩⟩ => true | _, _ => false)
  | .pointer none, .pointer none => true
  | .slice none n c, .slice none n' c' => Nat.beq n n' && Nat.beq c c'
  | .map none, .map none => true
  | _, _ => false
def sameCells : List Value → List Value → Bool
  | [], [] => true
  | x :: r, y :: s => sameCell x y && sameCells r s
  | _, _ => false

theorem sameCell_eq {a b : Value} (h : sameCell a b = true) : a = b := by
  unfold sameCell at h
  split at h
  · simp only [Bool.and_eq_true, decide_eq_true_eq] at h
    rw [ksame_eq h.1, h.2]
  · rfl
  · rfl
  · split at h
    · rfl
    · cases h
  · rfl
  · simp only [Bool.and_eq_true] at h
    rw [nbeq.1 h.1, nbeq.1 h.2]
  · rfl
  · cases h
theorem sameCells_eq : ∀ {a b : List Value}, sameCells a b = true → a = b
  | [], [], _ => rfl
  | [], _ :: _, h => by simp [sameCells] at h
  | _ :: _, [], h => by simp [sameCells] at h
  | x :: r, y :: s, h => by
    simp only [sameCells, Bool.and_eq_true] at h
    rw [sameCell_eq h.1, sameCells_eq h.2]

def zeroOKb (t : Ty) (o : Option Value) : Bool :=
  match t.zero with
  | none => true
  | some z => match o with
    | some v => match isAggTy t with
      | true => (match v with | .agg cs => sameCells cs.toList z.cells | _ => false)
      | false => sameCells [v] z.cells
    | none => false

theorem zeroOKb_eq {t : Ty} {o : Option Value} (h : zeroOKb t o = true) : ∀ z, t.zero = some z → o = some z.enc := by
  intro z hz
  unfold zeroOKb at h
  rw [hz] at h
  cases o with
  | none => cases h
  | some v =>
    simp only at h
    have hs := zero_shape hz
    cases ha : isAggTy t with
    | true =>
      rw [ha] at h
      cases v <;> simp only at h <;> try (cases h; done)
      rename_i cs
      rw [enc_agg hs ha, ← sameCells_eq h]
    | false =>
      rw [ha] at h
      simp only at h
      have := sameCells_eq h
      rw [enc_scalar hs ha] at this
      simp at this
      rw [this]

def infoOKb (X : Tab) (t : Nat) : Bool :=
  match isData (X.T t) with
  | true => match X.P.info? t with
    | some i => Nat.beq i.size (X.T t).size && Nat.beq i.bytes (X.B t) && zeroOKb (X.T t) i.zero
    | none => false
  | false => true

def fieldsOKb (X : Tab) : List Field → List Ty → Nat → Bool
  | [], [], _ => true
  | f :: fr, t :: tr, off => Nat.beq f.offset off && (X.T f.type).same t && !(f.name == "_") && fieldsOKb X fr tr (off + t.size)
  | _, _, _ => false

def tyOKb (X : Tab) (t : Nat) : Ty → Bool
  | .int k => match X.P.underlying t with | some (.int k') => ksame k' k | _ => false
  | .bool => match X.P.underlying t with | some .bool => true | _ => false
  | .str => match X.P.underlying t with | some .string => true | _ => false
  | .ptr e => match X.P.underlying t with | some (.pointer e') => Nat.beq e' e | _ => false
  | .slice e => match X.P.underlying t with | some (.slice e') => Nat.beq e' e | _ => false
  | .map => match X.P.underlying t with | some (.map _ _) => true | _ => false
  | .arr k n => match X.P.underlying t with | some (.array n' e) => Nat.beq n' n && (X.T e).same (.int k) | _ => false
  | .struct false ts => (match X.P.underlying t with | some (.struct fs) => fieldsOKb X fs.toList ts 0 | _ => false) && !X.P.stoodInHeld t
  | .struct true ts => match X.P.underlying t with | some (.array n e) => Ty.sames ts (List.replicate n (X.T e)) && isData (X.T e) | _ => false
  | _ => true

theorem fieldsOKb_eq {X : Tab} : ∀ {fs : List Field} {ts : List Ty} {off : Nat}, fieldsOKb X fs ts off = true → fieldsOK X fs ts off
  | [], [], _, _ => trivial
  | [], _ :: _, _, h => by simp [fieldsOKb] at h
  | _ :: _, [], _, h => by simp [fieldsOKb] at h
  | f :: fr, t :: tr, off, h => by
    simp only [fieldsOKb, Bool.and_eq_true, Bool.not_eq_true'] at h
    exact ⟨nbeq.1 h.1.1.1, Ty.same_eq h.1.1.2, h.1.2, fieldsOKb_eq h.2⟩

theorem tyOKb_eq {X : Tab} {t : Nat} {T : Ty} (h : tyOKb X t T = true) : tyOK X t T := by
  unfold tyOKb at h
  unfold tyOK
  split at h
  case h_1 k =>
    split at h
    · rename_i k' e; rw [e, ksame_eq h]
    · cases h
  case h_2 => split at h <;> first | assumption | cases h
  case h_3 => split at h <;> first | assumption | cases h
  case h_4 e =>
    split at h
    · rename_i k' e; rw [e, nbeq.1 h]
    · cases h
  case h_5 e =>
    split at h
    · rename_i k' e; rw [e, nbeq.1 h]
    · cases h
  case h_6 =>
    split at h
    · rename_i k e he; exact ⟨k, e, he⟩
    · cases h
  case h_7 k n =>
    split at h
    · rename_i n' e he
      simp only [Bool.and_eq_true] at h
      refine ⟨e, ?_, Ty.same_eq h.2⟩
      rw [he, nbeq.1 h.1]
    · cases h
  case h_8 ts =>
    simp only [Bool.and_eq_true, Bool.not_eq_true'] at h
    obtain ⟨h1, h2⟩ := h
    split at h1
    · rename_i fs he
      exact ⟨fs, he, fieldsOKb_eq h1, h2⟩
    · cases h1
  case h_9 ts =>
    split at h
    · rename_i n e he
      simp only [Bool.and_eq_true] at h
      exact ⟨n, e, he, Ty.sames_eq h.1, h.2⟩
    · cases h
  case h_10 h1 h2 h3 h4 h5 h6 h7 h8 h9 =>
    cases T <;> simp_all

/-- one type -/
def oneOKb (X : Tab) (t : Nat) : Bool := tyOKb X t (X.T t) && infoOKb X t && (!(X.T t).cmp || !X.P.eqGuardType X.P.depth t)
def downAll (f : Nat → Bool) : Nat → Bool
  | 0 => true
  | n + 1 => f n && downAll f n
def callOKb (X : Tab) (f : Nat) : Bool :=
  match X.C f with
  | true => match X.P.funcs[f]? with
    | some fn => !fn.body.isNone && !(fn.name == "runtime.NumGoroutine")
    | none => false
  | false => true

theorem downAll_spec {f : Nat → Bool} : ∀ {n : Nat}, downAll f n = true → ∀ i, i < n → f i = true
  | 0, _, i, hi => by omega
  | n + 1, h, i, hi => by
    simp only [downAll, Bool.and_eq_true] at h
    by_cases e : i = n
    · subst e; exact h.1
    · exact downAll_spec h.2 i (by omega)

def nthD {α : Type} (d : α) : List α → Nat → α
  | [], _ => d
  | x :: _, 0 => x
  | _ :: r, n + 1 => nthD d r n
theorem nthD_out {α : Type} {d : α} : ∀ {l : List α} {n : Nat}, l.length ≤ n → nthD d l n = d
  | [], n, _ => by cases n <;> rfl
  | x :: r, 0, h => by simp at h
  | x :: r, n + 1, h => by simpa [nthD] using nthD_out (l := r) (by simpa using h)

/-- the table: types, their bytes, the functions that may be called -/
def tabOf (P : Program) (ts : List Ty) (bs : List Nat) (cs : List Bool) : Tab := { P, T := nthD .other ts, B := nthD 0 bs, C := nthD false cs, D := [] }

def tabOKb (P : Program) (ts : List Ty) (bs : List Nat) (cs : List Bool) : Bool :=
  downAll (oneOKb (tabOf P ts bs cs)) ts.length && downAll (callOKb (tabOf P ts bs cs)) cs.length && P.follows .mixedOrders

theorem tabOK_of {P : Program} {ts : List Ty} {bs : List Nat} {cs : List Bool} (h : tabOKb P ts bs cs = true) : TabOK (tabOf P ts bs cs) := by
  simp only [tabOKb, Bool.and_eq_true] at h
  obtain ⟨⟨h1, h2⟩, h3⟩ := h
  have one : ∀ t, t < ts.length → oneOKb (tabOf P ts bs cs) t = true := downAll_spec h1
  have out : ∀ t, ¬ t < ts.length → (tabOf P ts bs cs).T t = .other := fun t ht => nthD_out (by omega)
  have spl : ∀ t, t < ts.length → tyOKb (tabOf P ts bs cs) t ((tabOf P ts bs cs).T t) = true ∧ infoOKb (tabOf P ts bs cs) t = true ∧ (((tabOf P ts bs cs).T t).cmp = false ∨ P.eqGuardType P.depth t = false) := by
    intro t ht
    have := one t ht
    simp only [oneOKb, Bool.and_eq_true, Bool.or_eq_true, Bool.not_eq_true'] at this
    exact ⟨this.1.1, this.1.2, this.2⟩
  exact {
    ty := fun t => by
      by_cases ht : t < ts.length
      · exact tyOKb_eq (spl t ht).1
      · rw [out t ht]; trivial
    info := fun t hd => by
      by_cases ht : t < ts.length
      · have := (spl t ht).2.1
        unfold infoOKb at this
        rw [hd] at this
        simp only at this
        split at this
        · rename_i i hi
          simp only [Bool.and_eq_true] at this
          exact ⟨i, hi, nbeq.1 this.1.1, nbeq.1 this.1.2, zeroOKb_eq this.2⟩
        · cases this
      · rw [out t ht] at hd; cases hd
    eqg := fun t hc => by
      by_cases ht : t < ts.length
      · rcases (spl t ht).2.2 with h | h
        · rw [h] at hc; cases hc
        · exact h
      · rw [out t ht] at hc; cases hc
    call := fun f hf => by
      by_cases hlt : f < cs.length
      · have := downAll_spec h2 f hlt
        unfold callOKb at this
        rw [hf] at this
        simp only at this
        split at this
        · rename_i fn hfn
          simp only [Bool.and_eq_true, Bool.not_eq_true'] at this
          exact ⟨fn, hfn, this.1, this.2⟩
        · cases this
      · have : (tabOf P ts bs cs).C f = false := nthD_out (by omega)
        rw [this] at hf; cases hf
    mixed := h3 }
end Go.Vc
end

section
open Go Go.Vc Go.Proofs
namespace Go.Vc.Stop

def tTs : List Ty := [(.tuple []),
  .other,
  (.int .i64),
  (.int .i64),
  .bool,
  (.int .u8),
  (.int .u8),
  (.struct false [(.int .i64), (.int .i64), .bool, (.int .u8)]),
  (.struct false [(.int .i64), (.int .i64), .bool, (.int .u8)]),
  .str,
  .str,
  .str,
  (.int .u64),
  .other,
  .other,
  (.ptr 163),
  (.ptr 166),
  (.ptr 174),
  .other,
  .other,
  .other,
  (.int .i32),
  (.arr .u8 16),
  (.struct false [(.int .i64), (.arr .u8 16)]),
  (.struct false [(.int .i64), (.arr .u8 16)]),
  (.slice 104),
  (.slice 5),
  (.struct false [(.int .i64), (.int .i64), .bool, .bool, (.int .i64), (.int .i64), (.int .i64), (.struct false [(.int .i64), (.arr .u8 16)]), (.struct false [(.int .i64), (.arr .u8 16)]), (.slice 104), (.slice 5)]),
  (.struct false [(.int .i64), (.int .i64), .bool, .bool, (.int .i64), (.int .i64), (.int .i64), (.struct false [(.int .i64), (.arr .u8 16)]), (.struct false [(.int .i64), (.arr .u8 16)]), (.slice 104), (.slice 5)]),
  (.slice 28),
  (.ptr 58),
  (.int .i64),
  (.tuple [(.ptr 58), (.int .i64)]),
  .other,
  (.ptr 37),
  (.slice 4),
  (.struct false [(.slice 5), (.slice 4), (.int .i64)]),
  (.struct false [(.slice 5), (.slice 4), (.int .i64)]),
  .other,
  (.tuple [(.struct false [(.int .i64), (.int .i64), .bool, .bool, (.int .i64), (.int .i64), (.int .i64), (.struct false [(.int .i64), (.arr .u8 16)]), (.struct false [(.int .i64), (.arr .u8 16)]), (.slice 104), (.slice 5)]), (.int .i64), (.int .i64)]),
  .other,
  .other,
  .other,
  .other,
  .other,
  .other,
  (.slice 3),
  (.tuple [(.slice 28), (.int .i64)]),
  .other,
  (.tuple [(.slice 28), (.int .i64)]),
  .other,
  .other,
  .other,
  (.tuple [(.int .i64), (.int .i64)]),
  .other,
  .other,
  .map,
  (.struct false [(.int .i64), (.int .i64), (.int .i64), .map]),
  (.struct false [(.int .i64), (.int .i64), (.int .i64), .map]),
  .other,
  .other,
  (.tuple [(.slice 5), (.int .i64)]),
  .other,
  .other,
  .other,
  (.struct false [(.struct false [(.int .i64), (.arr .u8 16)]), (.struct false [(.int .i64), (.arr .u8 16)]), (.int .i64), (.int .i64)]),
  (.struct false [(.struct false [(.int .i64), (.arr .u8 16)]), (.struct false [(.int .i64), (.arr .u8 16)]), (.int .i64), (.int .i64)]),
  (.ptr 83),
  .other,
  (.struct false [(.int .i64), (.int .i64), .bool]),
  (.struct false [(.int .i64), (.int .i64), .bool]),
  (.struct false [(.ptr 83), .bool, (.struct false [(.int .i64), (.int .i64), .bool]), .bool]),
  (.struct false [(.ptr 83), .bool, (.struct false [(.int .i64), (.int .i64), .bool]), .bool]),
  (.tuple [(.struct false [(.ptr 83), .bool, (.struct false [(.int .i64), (.int .i64), .bool]), .bool]), (.int .i64)]),
  .other,
  .other,
  (.ptr 119),
  (.slice 176),
  (.struct false [.bool, .bool, (.int .i64), (.int .i64)]),
  (.struct false [.bool, .bool, (.int .i64), (.int .i64)]),
  (.struct false [(.int .i64), (.int .i64), (.int .i64), (.struct false [(.int .i64), (.arr .u8 16)]), (.struct false [(.int .i64), (.arr .u8 16)]), (.slice 176), (.struct false [.bool, .bool, (.int .i64), (.int .i64)]), (.int .i64), (.slice 5)]),
  (.struct false [(.int .i64), (.int .i64), (.int .i64), (.struct false [(.int .i64), (.arr .u8 16)]), (.struct false [(.int .i64), (.arr .u8 16)]), (.slice 176), (.struct false [.bool, .bool, (.int .i64), (.int .i64)]), (.int .i64), (.slice 5)]),
  (.struct false [(.struct false [(.struct false [(.int .i64), (.arr .u8 16)]), (.struct false [(.int .i64), (.arr .u8 16)]), (.int .i64), (.int .i64)]), (.int .i64), (.int .i64), (.int .i64), (.int .i64), (.ptr 119), (.int .i64), .bool, (.struct false [(.int .i64), (.int .i64), .bool, .bool, (.int .i64), (.int .i64), (.int .i64), (.struct false [(.int .i64), (.arr .u8 16)]), (.struct false [(.int .i64), (.arr .u8 16)]), (.slice 104), (.slice 5)]), (.struct false [(.int .i64), (.int .i64), (.int .i64), (.struct false [(.int .i64), (.arr .u8 16)]), (.struct false [(.int .i64), (.arr .u8 16)]), (.slice 176), (.struct false [.bool, .bool, (.int .i64), (.int .i64)]), (.int .i64), (.slice 5)])]),
  (.struct false [(.struct false [(.struct false [(.int .i64), (.arr .u8 16)]), (.struct false [(.int .i64), (.arr .u8 16)]), (.int .i64), (.int .i64)]), (.int .i64), (.int .i64), (.int .i64), (.int .i64), (.ptr 119), (.int .i64), .bool, (.struct false [(.int .i64), (.int .i64), .bool, .bool, (.int .i64), (.int .i64), (.int .i64), (.struct false [(.int .i64), (.arr .u8 16)]), (.struct false [(.int .i64), (.arr .u8 16)]), (.slice 104), (.slice 5)]), (.struct false [(.int .i64), (.int .i64), (.int .i64), (.struct false [(.int .i64), (.arr .u8 16)]), (.struct false [(.int .i64), (.arr .u8 16)]), (.slice 176), (.struct false [.bool, .bool, (.int .i64), (.int .i64)]), (.int .i64), (.slice 5)])]),
  .other,
  (.tuple [(.slice 5), .bool]),
  .other,
  .other,
  .other,
  .other,
  .other,
  .other,
  (.struct false [(.int .i64), (.int .i64)]),
  (.struct false [(.int .i64), (.int .i64)]),
  (.slice 97),
  .other,
  (.struct false [(.int .i64), (.slice 5), .bool]),
  (.struct false [(.int .i64), (.slice 5), .bool]),
  .other,
  .other,
  .other,
  (.slice 67),
  .other,
  (.struct false [(.int .i64), (.slice 5)]),
  (.struct false [(.int .i64), (.slice 5)]),
  (.tuple [(.slice 5), (.int .i64)]),
  .other,
  .other,
  (.tuple [(.ptr 119), (.int .i64)]),
  .other,
  (.tuple [(.int .i64), .bool]),
  .other,
  (.tuple [(.struct false [(.int .i64), (.int .i64), .bool]), (.int .i64)]),
  .other,
  .other,
  .other,
  (.slice 128),
  .map,
  (.struct false [(.int .i64), (.slice 5), (.slice 128), (.int .i64), (.int .i64), .map]),
  (.struct false [(.int .i64), (.slice 5), (.slice 128), (.int .i64), (.int .i64), .map]),
  .other,
  .other,
  .other,
  .other,
  .other,
  .other,
  .other,
  .other,
  (.arr .i64 2),
  .other,
  (.struct false [(.int .i64), (.int .i64), .bool]),
  (.struct false [(.int .i64), (.int .i64), .bool]),
  (.struct false []),
  (.tuple [(.struct false []), .bool]),
  .other,
  .other,
  (.slice 26),
  .other,
  .other,
  (.int .u64),
  .other,
  (.int .i64),
  (.tuple [(.int .i64), (.int .i64)]),
  .other,
  .other,
  .other,
  .other,
  .other,
  (.int .u32),
  .other,
  (.int .u64),
  .other,
  (.int .u64),
  .other,
  .other,
  .other,
  (.ptr 3),
  .other,
  (.ptr 152),
  (.tuple [(.int .i64), (.int .i64)]),
  .other,
  .other,
  .other,
  .other,
  (.struct true []),
  .other,
  .other,
  (.int .u8),
  (.int .u8),
  .other,
  (.ptr 5),
  (.int .i32),
  (.int .i32),
  .other,
  .other,
  (.struct false [(.int .i64), (.slice 104), (.slice 5)]),
  (.struct false [(.int .i64), (.slice 104), (.slice 5)]),
  .other]
def tBs : List Nat := [0, 8, 8, 8, 1, 1, 1, 24, 24, 16, 16, 16, 8, 24, 24, 8, 8, 8, 8, 8, 16, 4, 16, 24, 24, 24, 24, 144, 144, 24, 8, 8, 0, 8, 8, 24, 56, 56, 8, 0, 8, 8, 8, 8, 8, 8, 24, 0, 8, 0, 8, 8, 8, 0, 8, 8, 8, 32, 32, 8, 8, 0, 8, 8, 8, 64, 64, 8, 8, 24, 24, 48, 48, 0, 8, 8, 8, 24, 24, 24, 152, 152, 416, 416, 8, 0, 8, 8, 8, 8, 8, 8, 16, 16, 24, 8, 40, 40, 8, 8, 8, 24, 8, 32, 32, 0, 8, 8, 0, 8, 0, 8, 0, 8, 8, 8, 24, 8, 80, 80, 8, 8, 8, 16, 16, 8, 8, 8, 16, 8, 24, 24, 0, 0, 8, 8, 24, 8, 8, 8, 8, 8, 0, 8, 8, 8, 8, 8, 4, 8, 8, 8, 8, 8, 8, 8, 8, 8, 8, 0, 8, 8, 40, 40, 0, 0, 0, 1, 1, 8, 8, 4, 4, 48, 48, 56, 56, 8]
def tCs : List Bool := [false, false, true, true, true, true, true, true, true, true, true, true, true, true, true, true, true, true, true, true, true, true, true, true, true, true, true, true, true, true, true, true, true, true, true, true, true, true, true, true, true, true, true, true, true, true, true, true, true, true, true, true, true, true, true, true, true, true, true, true, true, true, true, true, true, true, true, true, true, true, true, true, true, true, true, true, true, true, true, true, true, true, true, true, true, true, true, false, false, false, false, false, false, false, false, false, false, false, false, false, false, false, false, false, true, false]
noncomputable def X1 : Tab := { tabOf Try.prog tTs tBs tCs with M := lookM [(56, 66, 67), (117, 131, 132)] }
theorem X1_ok : TabOK X1 := (tabOK_of (by kernel_rfl)).withM _
noncomputable def X : Tab := { X1 with En := .ptr 83 }
theorem X_ok : TabOK X := X1_ok.withEn _

end Go.Vc.Stop
end

section
open Go Go.Vc
namespace Go.Vc.Stop
/-- weir/weirtop.TopWholeOnce4 -/
def a4 : Ann := (.seq .leaf (.cut [] [0] (.seq .leaf (.cond (.seq .leaf .leaf) .leaf)) (.seq .leaf (.cut [] [0] (.seq .leaf (.cond (.seq .leaf .leaf) .leaf)) (.seq .leaf (.seq .leaf (.cut [] [0] (.seq .leaf (.cond (.seq .leaf .leaf) .leaf)) (.seq (.seq .leaf (.cond (.seq .leaf (.seq .leaf .leaf)) .leaf)) (.seq .leaf (.seq .leaf (.seq (.seq .leaf (.block (.loop [(.t 18, (.slice 3)), (.t 20, (.int .i64))] [0] (.seq (.seq .leaf (.cond .leaf .leaf)) (.cut [(.t 18, (.slice 3))] [0] (.block (.cut [] [0] (.seq (.draw (.early 0 (.early 1 (.early 2 (.early 3 (.early 4 (.early 5 (.early 6 (.early 7 (.early 8 (.early 9 (.fork [(10, (.early 11 .done))])))))))))))) (.cond .leaf .leaf)) (.seq .leaf (.seq .leaf (.cut [] [0, 1] (.seq .leaf (.cond (.seq .leaf .leaf) .leaf)) (.seq .leaf (.cond .leaf .leaf))))))) .leaf))))) (.seq .leaf .leaf))))))))))))
/-- weir/reasm.New -/
def a5 : Ann := (.seq .leaf (.cut [] [] (.seq .leaf (.cond (.seq .leaf .leaf) .leaf)) (.seq .leaf .leaf)))
/-- weir/weirref6.Check -/
def a6 : Ann := (.seq .leaf (.cut [] [0] (.seq .leaf (.cond (.seq .leaf .leaf) .leaf)) (.seq .leaf (.seq (.seq .leaf (.cond (.seq .leaf .leaf) .leaf)) (.seq (.seq .leaf (.cond (.seq .leaf .leaf) .leaf)) (.seq (.seq .leaf (.cond (.seq .leaf .leaf) .leaf)) (.seq .leaf .leaf)))))))
/-- (*weir/reasm.Table).Offer4 -/
def a7 : Ann := (.seq .leaf (.seq (.seq .leaf (.seq .leaf (.cond (.seq .leaf .leaf) .leaf))) (.cut [(.b 1, (.struct false [(.int .i64), (.int .i64), .bool, .bool, (.int .i64), (.int .i64), (.int .i64), (.struct false [(.int .i64), (.arr .u8 16)]), (.struct false [(.int .i64), (.arr .u8 16)]), (.slice 104), (.slice 5)]))] [0] (.seq .leaf (.cond (.seq .leaf .leaf) .leaf)) (.seq .leaf (.seq (.seq (.draw (.early 0 (.early 1 (.early 2 (.early 3 (.early 4 (.fork [(5, (.fork [(6, (.early 7 .done))]))]))))))) (.seq .leaf (.cond (.seq .leaf .leaf) .leaf))) (.seq .leaf (.cut [(.t 11, (.int .i64))] [0, 1, 2, 3] (.seq .leaf (.cond .leaf .leaf)) (.cut [(.t 11, (.int .i64))] [0, 1, 2, 3] (.seq .leaf (.cond .leaf .leaf)) (.seq (.seq .leaf (.cond (.seq .leaf .leaf) .leaf)) (.cut [] [0, 1, 2, 3] (.seq .leaf (.cond (.drawK [] (.early 0 (.early 1 (.early 2 (.early 3 (.early 4 (.fork [(5, (.early 6 (.early 7 (.fork [(8, (.early 9 (.early 10 (.fork [(11, .done)]))))]))))]))))))) .leaf)) (.seq .leaf (.seq (.seq .leaf (.cond (.seq .leaf .leaf) .leaf)) (.seq .leaf (.seq .leaf (.seq (.seq .leaf (.cond (.seq (.draw (.early 0 (.early 1 (.early 2 (.early 3 (.early 4 (.early 5 (.early 6 (.early 7 (.fork [(8, .done)])))))))))) (.seq .leaf .leaf)) .leaf)) (.seq .leaf (.seq .leaf .leaf)))))))))))))))))
/-- weir/weirtop.sameBytes -/
def a11 : Ann := (.seq .leaf (.seq .leaf .leaf))
/-- weir/weirref13.Split4 -/
def a12 : Ann := (.seq .leaf (.seq .leaf (.seq (.seq .leaf (.cond (.seq .leaf .leaf) .leaf)) (.cut [] [0] (.seq .leaf (.cond (.seq .leaf .leaf) .leaf)) (.seq (.seq .leaf (.cond (.seq .leaf .leaf) .leaf)) (.seq (.seq .leaf (.cond (.seq .leaf .leaf) .leaf)) (.seq .leaf (.seq .leaf (.seq (.block (.loop [(.t 7, (.slice 28)), (.t 8, (.int .i64))] [0] (.seq (.seq .leaf (.cond .leaf .leaf)) (.block (.seq .leaf (.cut [(.b 1, (.struct false [(.int .i64), (.int .i64), .bool, .bool, (.int .i64), (.int .i64), (.int .i64), (.struct false [(.int .i64), (.arr .u8 16)]), (.struct false [(.int .i64), (.arr .u8 16)]), (.slice 104), (.slice 5)]))] [0] (.seq .leaf (.cond .leaf .leaf)) (.seq .leaf (.seq .leaf (.seq .leaf (.seq .leaf (.seq .leaf (.seq .leaf (.seq .leaf (.seq .leaf .leaf)))))))))))))) (.seq .leaf .leaf))))))))))
/-- weir/weirtop.same4 -/
def a14 : Ann := (.seq .leaf (.seq .leaf .leaf))
/-- weir/weirtop.walk -/
def a15 : Ann := (.seq .leaf (.seq .leaf (.cut [(.t 5, (.slice 3))] [] (.seq .leaf (.block (.loop [(.t 5, (.slice 3)), (.t 6, (.int .i64))] [] (.cut [] [] (.seq .leaf (.cond .leaf .leaf)) (.seq (.block .leaf) .leaf))))) (.seq (.seq .leaf (.block (.loop [(.t 5, (.slice 3)), (.t 7, (.int .i64))] [] (.seq (.seq .leaf (.cond .leaf .leaf)) (.cut [(.t 5, (.slice 3))] [] (.block (.seq .leaf (.cond .leaf .leaf))) .leaf))))) (.seq .leaf .leaf)))))
/-- weir/weirtop.strange4 -/
def a16 : Ann := (.seq .leaf (.seq .leaf .leaf))
/-- weir/weirtop.comes -/
def a17 : Ann := (.seq .leaf (.seq (.seq .leaf (.cond (.seq .leaf .leaf) .leaf)) (.seq (.seq .leaf (.cond (.seq .leaf .leaf) .leaf)) (.seq (.seq .leaf (.cond (.seq .leaf .leaf) .leaf)) (.seq .leaf .leaf)))))
/-- (*weir/reasm.Table).Finished -/
def a18 : Ann := (.seq .leaf (.seq .leaf .leaf))
/-- weir/weirref6.out -/
def a19 : Ann := (.seq .leaf (.seq .leaf .leaf))
/-- weir/weirref6.four -/
def a20 : Ann := (.seq .leaf (.seq (.seq .leaf (.block (.loop [(.t 3, (.int .i64))] [0] (.seq (.seq .leaf (.cond .leaf .leaf)) (.seq (.block (.seq .leaf (.cond (.seq .leaf .leaf) .leaf))) .leaf))))) (.seq .leaf .leaf)))
/-- weir/weirref6.PutOptions -/
def a21 : Ann := (.seq .leaf (.seq .leaf (.seq (.seq .leaf (.block (.loop [(.t 4, (.slice 5)), (.t 5, (.int .i64))] [] (.seq (.seq .leaf (.cond .leaf .leaf)) (.cut [(.t 4, (.slice 5))] [] (.block (.seq .leaf (.cut [] [] (.seq .leaf (.cond (.seq .leaf .leaf) .leaf)) (.seq .leaf .leaf)))) .leaf))))) (.seq (.block (.loop [(.t 4, (.slice 5))] [] (.seq (.seq .leaf (.cond .leaf .leaf)) (.block .leaf)))) (.seq (.seq .leaf (.cond (.seq .leaf .leaf) .leaf)) (.seq .leaf .leaf))))))
/-- weir/weirref6.frag -/
def a22 : Ann := (.seq .leaf (.seq .leaf .leaf))
/-- weir/ip4.Check -/
def a23 : Ann := (.seq .leaf (.cut [] [0] (.seq .leaf (.cond (.seq .leaf .leaf) .leaf)) (.seq .leaf (.seq (.seq .leaf (.cond (.seq .leaf .leaf) .leaf)) (.seq (.seq .leaf (.cond (.seq .leaf .leaf) .leaf)) (.seq .leaf .leaf))))))
/-- (*weir/reasm.context).ready -/
def a24 : Ann := (.seq .leaf (.seq (.block (.seq .leaf (.cond (.seq .leaf .leaf) (.seq .leaf (.cond (.seq .leaf .leaf) (.seq .leaf (.cond (.seq .leaf .leaf) (.seq .leaf (.cond (.seq .leaf .leaf) .leaf))))))))) (.seq .leaf .leaf)))
/-- (*weir/reasm.Table).lay -/
def a25 : Ann := (.seq .leaf (.seq (.draw (.early 0 (.early 1 (.early 2 (.early 3 (.early 4 (.fork [(5, (.early 6 (.fork [(7, (.fork [(8, .done)]))]))), (7, (.fork [(5, (.early 6 (.fork [(8, .done)])))]))]))))))) (.cut [(.b 1, (.struct false [(.ptr 83), .bool, (.struct false [(.int .i64), (.int .i64), .bool]), .bool])), (.b 2, (.struct false [(.ptr 83), .bool, (.struct false [(.int .i64), (.int .i64), .bool]), .bool]))] [0] (.seq .leaf (.cond (.seq .leaf (.seq (.seq .leaf (.cond (.seq .leaf .leaf) .leaf)) (.draw (.early 0 (.early 1 (.early 2 (.early 3 (.early 4 (.early 5 (.early 6 (.fork [(7, (.early 8 (.fork [(9, (.early 10 (.fork [(11, .done)])))])))]))))))))))) .leaf)) (.seq .leaf (.seq .leaf (.seq .leaf (.seq (.seq .leaf (.block (.seq .leaf (.cond .leaf (.cut [(.t 78, .bool)] [0, 1, 2] (.seq .leaf (.cond .leaf (.seq .leaf (.cond .leaf .leaf)))) (.cond (.seq .leaf .leaf) (.seq .leaf .leaf))))))) (.seq .leaf (.seq .leaf (.seq .leaf .leaf))))))))))
/-- (*weir/reasm.Table).hold -/
def a26 : Ann := (.seq .leaf (.cut [] [0] (.seq .leaf (.cond (.seq (.seq .leaf (.seq .leaf (.cond (.seq .leaf .leaf) .leaf))) (.seq (.draw (.early 0 (.early 1 (.early 2 (.early 3 (.early 4 (.early 5 (.early 6 (.early 7 (.fork [(8, .done)])))))))))) (.seq .leaf (.draw (.early 0 (.early 1 (.early 2 (.early 3 (.early 4 (.early 5 (.early 6 (.early 7 (.early 8 (.early 9 (.early 10 (.fork [(11, .done)])))))))))))))))) .leaf)) (.seq .leaf (.seq .leaf .leaf))))
/-- weir/reasm.clone4 -/
def a27 : Ann := (.seq .leaf (.seq (.draw (.early 0 (.early 1 (.early 3 (.early 4 (.fork [(2, (.early 6 (.fork [(5, (.fork [(7, (.early 8 (.fork [(9, .done)])))]))])))])))))) (.seq .leaf .leaf)))
/-- (*weir/hole.Holes).Bytes -/
def a28 : Ann := (.seq .leaf (.seq (.seq .leaf (.cond (.seq .leaf .leaf) .leaf)) (.seq (.draw (.early 0 (.early 1 (.early 2 (.early 3 (.early 4 (.early 5 (.early 6 (.early 7 (.early 8 (.fork [(9, (.early 10 (.early 11 .done)))]))))))))))) .leaf)))
/-- (*weir/reasm.context).spoil -/
def a29 : Ann := (.seq .leaf .leaf)
/-- (*weir/reasm.context).finish -/
def a30 : Ann := (.seq .leaf .leaf)
/-- weir/weirref13.length4 -/
def a31 : Ann := (.seq .leaf (.seq .leaf (.seq .leaf .leaf)))
/-- weir/weirref13.clone4 -/
def a32 : Ann := (.seq .leaf (.seq .leaf (.seq .leaf (.seq .leaf .leaf))))
/-- weir/weirref13.copying -/
def a33 : Ann := (.seq .leaf (.seq .leaf (.seq (.seq .leaf (.block (.loop [(.t 3, (.slice 104)), (.t 4, (.int .i64))] [] (.seq (.seq .leaf (.cond .leaf .leaf)) (.cut [(.t 3, (.slice 104))] [] (.block (.seq .leaf (.cond .leaf .leaf))) .leaf))))) (.seq .leaf .leaf))))
/-- weir/weirref13.take -/
def a34 : Ann := (.seq .leaf (.seq (.seq .leaf (.cond (.seq .leaf .leaf) .leaf)) (.seq .leaf (.seq (.block (.loop [(.t 7, (.int .i64))] [] (.seq (.seq .leaf (.cond .leaf .leaf)) (.block .leaf)))) (.seq .leaf .leaf)))))
/-- weir/split.padded -/
def a35 : Ann := (.seq .leaf (.seq .leaf (.seq .leaf .leaf)))
/-- weir/split.options -/
def a36 : Ann := (.seq .leaf (.seq .leaf (.seq (.seq .leaf (.block (.loop [(.t 5, (.slice 104)), (.t 10, (.int .i64))] [] (.seq .leaf (.seq (.cond .leaf .leaf) (.seq (.block (.seq .leaf (.seq .leaf (.cond (.draw (.early 0 (.early 1 (.early 2 (.early 3 (.early 4 (.fork [(5, (.early 6 (.fork [(7, (.fork [(8, (.early 9 .done))]))])))]))))))) .leaf)))) .leaf)))))) (.seq .leaf .leaf))))
/-- weir/split.clone4 -/
def a37 : Ann := (.seq .leaf (.seq .leaf (.seq .leaf (.seq .leaf .leaf))))
/-- weir/split.cut -/
def a38 : Ann := (.seq .leaf (.seq .leaf (.seq .leaf (.block (.loop [(.t 7, (.slice 97)), (.t 8, (.int .i64))] [] (.block (.seq .leaf (.seq (.seq .leaf (.cond (.seq .leaf .leaf) .leaf)) (.seq .leaf (.seq .leaf .leaf))))))))))
/-- weir/weirtop.sameOpts -/
def a39 : Ann := (.seq .leaf (.seq (.seq .leaf (.cond (.seq .leaf .leaf) .leaf)) (.seq (.seq .leaf (.block (.loop [(.t 5, (.int .i64))] [] (.seq (.seq .leaf (.cond .leaf .leaf)) (.cut [] [] (.block (.seq (.draw (.early 0 (.early 1 (.early 2 (.early 3 (.early 4 (.early 5 (.early 6 (.early 7 (.early 8 (.early 9 (.early 10 (.early 11 (.early 12 (.early 13 (.early 14 (.early 15 (.early 16 (.early 17 (.early 18 (.early 19 (.early 20 (.early 21 (.fork [(22, (.early 23 (.early 24 .done)))])))))))))))))))))))))))) (.cond (.seq .leaf .leaf) .leaf))) .leaf))))) (.seq .leaf .leaf))))
/-- weir/weirtop.mod -/
def a40 : Ann := (.seq .leaf (.seq .leaf (.seq (.seq .leaf (.cond .leaf .leaf)) (.seq .leaf .leaf))))
/-- weir/weirtop.among -/
def a41 : Ann := (.seq .leaf (.seq (.seq .leaf (.block (.loop [(.t 5, (.int .i64))] [] (.seq (.seq .leaf (.cond .leaf .leaf)) (.seq (.block (.seq .leaf (.cond (.seq .leaf .leaf) .leaf))) .leaf))))) (.seq .leaf .leaf)))
/-- (*weir/reasm.Table).oldest -/
def a42 : Ann := (.seq .leaf (.seq .leaf (.seq (.seq .leaf (.block (.loop [(.t 5, (.slice 67))] [] (.seq .leaf (.seq (.cond .leaf .leaf) (.block (.seq .leaf (.seq .leaf (.cond .leaf .leaf))))))))) (.seq .leaf (.seq .leaf .leaf)))))
/-- weir/ip4.out -/
def a43 : Ann := (.seq .leaf (.seq .leaf .leaf))
/-- weir/ip4.four -/
def a44 : Ann := (.seq .leaf (.seq .leaf (.seq (.drawF [1, 0] (.early 1 (.fork [(0, (.fork [(2, (.fork [(3, .done)]))])), (2, (.fork [(0, (.fork [(3, .done)]))]))]))) (.seq .leaf .leaf))))
/-- weir/ip4.PutOptions -/
def a45 : Ann := (.seq .leaf (.seq .leaf (.seq (.seq .leaf (.block (.loop [(.t 4, (.slice 5)), (.t 9, (.int .i64))] [] (.seq .leaf (.seq (.cond .leaf .leaf) (.seq (.block (.seq .leaf (.cut [] [0] (.seq .leaf (.cond (.seq .leaf .leaf) .leaf)) (.seq .leaf .leaf)))) .leaf)))))) (.seq (.block (.loop [(.t 4, (.slice 5))] [] (.seq (.seq .leaf (.cond .leaf .leaf)) (.block .leaf)))) (.seq .leaf .leaf)))))
/-- weir/ip4.fragment -/
def a46 : Ann := (.seq .leaf (.seq (.seq .leaf (.cond (.seq .leaf .leaf) .leaf)) (.seq .leaf .leaf)))
/-- weir/hole.New -/
def a47 : Ann := (.seq .leaf (.cut [] [] (.seq .leaf (.cond (.seq .leaf .leaf) .leaf)) (.seq .leaf .leaf)))
/-- (*weir/hole.Holes).Total -/
def a48 : Ann := (.seq .leaf (.seq (.draw (.early 0 (.early 1 (.early 2 (.early 3 (.early 4 (.early 5 (.early 6 (.early 7 (.early 8 (.early 9 (.early 10 (.early 11 .done))))))))))))) .leaf))
/-- (*weir/reasm.Table).room -/
def a50 : Ann := (.seq .leaf (.seq (.seq (.draw (.early 0 (.early 1 (.early 2 (.early 3 (.early 5 (.early 6 (.early 7 (.early 8 (.fork [(4, .early 9 .done)])))))))))) (.cond (.seq .leaf .leaf) .leaf)) (.seq .leaf (.seq (.seq .leaf (.cond (.seq .leaf .leaf) .leaf)) (.seq (.draw (.early 0 (.early 1 (.early 2 (.early 3 (.early 4 (.early 5 (.early 6 (.early 7 (.early 8 (.early 9 (.fork [(10, .done)])))))))))))) (.seq .leaf .leaf))))))
/-- weir/reasm.options -/
def a51 : Ann := (.seq .leaf (.seq .leaf (.seq (.seq .leaf (.block (.loop [(.t 3, (.slice 104)), (.t 8, (.int .i64))] [] (.seq .leaf (.seq (.cond .leaf .leaf) (.seq (.block (.seq .leaf (.draw (.early 0 (.early 1 (.early 2 (.early 3 (.early 4 (.fork [(5, (.early 6 (.fork [(7, (.fork [(8, (.early 9 .done))]))])))]))))))))) .leaf)))))) (.seq .leaf .leaf))))
/-- weir/reasm.copies -/
def a52 : Ann := (.seq .leaf (.seq .leaf .leaf))
/-- (*weir/hole.Holes).Whole -/
def a53 : Ann := (.seq .leaf (.seq .leaf .leaf))
/-- slices.Clone[[]byte,byte] -/
def a54 : Ann := (.seq .leaf (.seq (.seq .leaf (.cond (.seq .leaf .leaf) .leaf)) (.seq .leaf .leaf)))
/-- (*weir/reasm.context).end -/
def a55 : Ann := (.seq .leaf .leaf)
/-- weir/weirref6.Serialise -/
def a56 : Ann := (.seq .leaf (.seq .leaf (.seq (.seq .leaf (.cond (.seq .leaf .leaf) .leaf)) (.seq .leaf (.seq .leaf (.seq .leaf (.cut [(.t 8, (.int .i64))] [0] (.seq .leaf (.cond .leaf .leaf)) (.cut [(.t 8, (.int .i64))] [0] (.seq .leaf (.cond .leaf .leaf)) (.seq .leaf (.seq .leaf (.seq .leaf (.seq .leaf (.seq .leaf (.seq .leaf (.seq (.seq .leaf (.block (.loop [(.t 10, (.slice 5)), (.t 11, (.int .i64))] [0] (.seq (.seq .leaf (.cond .leaf .leaf)) (.seq (.block .leaf) .leaf))))) (.seq (.seq .leaf (.block (.loop [(.t 10, (.slice 5)), (.t 12, (.int .i64))] [0] (.seq (.seq .leaf (.cond .leaf .leaf)) (.seq (.block .leaf) .leaf))))) (.seq .leaf (.seq .leaf (.seq .leaf (.seq .leaf (.seq .leaf .leaf)))))))))))))))))))))
/-- weir/weirref7.CloneOpts -/
def a57 : Ann := (.seq .leaf (.seq .leaf (.seq (.seq .leaf (.block (.loop [(.t 3, (.slice 104)), (.t 4, (.int .i64))] [] (.seq (.seq .leaf (.cond .leaf .leaf)) (.seq (.block (.draw (.early 0 (.early 1 (.early 2 (.early 3 (.early 4 (.early 5 (.early 6 (.early 7 (.early 8 (.early 9 (.early 10 (.fork [(11, (.early 12 (.fork [(13, (.fork [(14, (.early 15 .done))]))])))])))))))))))))) .leaf))))) (.seq .leaf .leaf))))
/-- weir/weirref13.part -/
def a58 : Ann := (.seq .leaf (.seq .leaf (.seq .leaf .leaf)))
/-- (*weir/hole.Holes).refused -/
def a61 : Ann := (.seq .leaf (.seq .leaf (.seq (.block (.seq .leaf (.cond (.seq .leaf .leaf) (.cut [(.t 15, .bool)] [] .leaf (.cond (.seq .leaf .leaf) (.seq .leaf (.cond (.seq .leaf .leaf) (.seq .leaf (.cond (.seq .leaf .leaf) (.cut [(.t 51, .bool)] [] .leaf (.cond (.seq .leaf .leaf) (.cut [(.t 71, .bool)] [] .leaf (.cond (.seq .leaf .leaf) (.seq .leaf (.cond (.seq .leaf .leaf) .leaf))))))))))))))) (.seq .leaf .leaf))))
/-- bytes.Equal -/
def a62 : Ann := (.seq .leaf (.seq .leaf .leaf))
/-- weir/weirref6.add -/
def a63 : Ann := (.seq .leaf (.seq .leaf .leaf))
/-- weir/weirref2.Check -/
def a64 : Ann := (.seq .leaf (.seq .leaf .leaf))
/-- weir/weirref7.copied -/
def a65 : Ann := (.seq .leaf (.seq .leaf (.seq .leaf .leaf)))
/-- (*weir/hole.Holes).top -/
def a68 : Ann := (.seq .leaf (.seq .leaf (.seq (.seq .leaf (.cond (.seq .leaf .leaf) .leaf)) (.seq (.seq .leaf (.seq (.draw (.early 0 (.early 1 (.early 2 (.early 3 (.early 4 (.early 5 (.early 6 .done)))))))) (.cond (.seq .leaf .leaf) .leaf))) (.seq .leaf .leaf)))))
/-- weir/weirref2.Sum -/
def a69 : Ann := (.seq .leaf (.seq .leaf (.seq .leaf (.seq (.seq .leaf (.block (.loop [(.t 3, (.int .i64)), (.t 4, (.int .i64)), (.t 5, (.int .i64))] [] (.seq (.seq .leaf (.cond .leaf .leaf)) (.seq (.block (.seq .leaf (.block (.loop [(.t 3, (.int .i64)), (.t 4, (.int .i64)), (.t 6, (.int .i64))] [] (.seq (.seq .leaf (.cond .leaf .leaf)) (.cut [(.t 3, (.int .i64)), (.t 4, (.int .i64))] [] (.block (.seq .leaf (.cut [(.t 7, (.int .i64))] [] (.seq .leaf (.cond .leaf .leaf)) (.seq .leaf .leaf)))) .leaf)))))) .leaf))))) (.seq .leaf .leaf)))))
/-- weir/weirref2.folded -/
def a80 : Ann := (.seq .leaf (.seq (.seq .leaf (.cond (.seq .leaf .leaf) .leaf)) (.seq .leaf .leaf)))
/-- (weir/split.heads4).head -/
def a104 : Ann := (.seq .leaf (.seq (.seq .leaf (.cond (.seq .leaf .leaf) .leaf)) (.seq .leaf .leaf)))
end Go.Vc.Stop
end

section
namespace Go.Vc
open Go.RowKit (Below)
set_option linter.unusedVariables false
set_option linter.unusedSimpArgs false
set_option autoImplicit false

/-! ### frames -/
theorem Upd.below {m n : List Nat} {w w1 : World} (h : Upd m n w w1) (hm : ∀ b ∈ m, w.heap.size ≤ b) : Below w.heap.size w w1 :=
  ⟨h.os, h.tape, h.output, h.size, fun k hk => h.keep k hk (fun e => by have := hm k e; omega)⟩
/-- nothing old is written: w is what it was, but for blocks from w0's size on -/
theorem Upd.step {m n m' n' : List Nat} {w0 w w1 : World} (h : Upd m n w0 w) (k : Upd m' n' w w1) (hm : ∀ b ∈ m', w0.heap.size ≤ b ∨ b ∈ m) : Upd m [] w0 w1 where
  os := k.os.trans h.os
  tape := k.tape.trans h.tape
  output := k.output.trans h.output
  size := Nat.le_trans h.size k.size
  keep b hb hn := by
    have h1 := h.size
    rw [k.keep b (by omega) (fun e => by rcases hm b e with h | h; omega; exact hn h), h.keep b hb hn]
  news := by simp
theorem Upd.step0 {n m' n' : List Nat} {w0 w w1 : World} (h : Upd [] n w0 w) (k : Upd m' n' w w1) (hm : ∀ b ∈ m', w0.heap.size ≤ b) : Upd [] [] w0 w1 :=
  h.step k (fun b hb => .inl (hm b hb))
theorem Upd.then {n n' : List Nat} {w0 w w1 : World} (h : Upd [] n w0 w) (k : Upd [] n' w w1) : Upd [] [] w0 w1 := h.step k (by simp)
theorem Upd.forget {m n : List Nat} {w w1 : World} (h : Upd m n w w1) : Upd m [] w w1 := h.mono (fun _ h => h) (by simp)
theorem Upd.wide {m m' n : List Nat} {w w1 : World} (h : Upd m n w w1) (hm : ∀ x ∈ m, x ∈ m') : Upd m' [] w w1 := h.mono hm (by simp)
theorem Upd.new {m n : List Nat} {w w1 : World} (h : Upd m n w w1) {b : Nat} (hb : b ∈ n) : w.heap.size ≤ b ∧ b < w1.heap.size := h.news b hb

theorem cell_of_block {w : World} {b e : Nat} {c : Array Value} {f : Nat × Nat} (h : w.heap[b]? = some (.cells c e f)) (i : Nat) : w.cell? ⟨b, i, none⟩ = c[i]? := by
  simp [World.cell?, h]
theorem frozen_of_block {w : World} {b e : Nat} {c : Array Value} (h : w.heap[b]? = some (.cells c e (0, 0))) (i : Nat) : w.frozen? ⟨b, i, none⟩ = false := by
  simp [World.frozen?, h]
theorem cell_lt {w : World} {a : Addr} {v : Value} (h : w.cell? a = some v) : a.block < w.heap.size := by
  unfold World.cell? at h
  split at h
  · rename_i hb
    exact (Array.getElem?_eq_some_iff.1 hb).1
  · cases h
@[simp] theorem add_block (a : Addr) (n : Nat) : (a.add n).block = a.block := by unfold Addr.add; split <;> rfl
@[simp] theorem add_zero (a : Addr) : a.add 0 = a := by simp [Addr.add]
theorem add_none {b o n : Nat} : (⟨b, o, none⟩ : Addr).add n = ⟨b, o + n, none⟩ := by unfold Addr.add; split <;> simp_all
theorem Upd.cell' {m n : List Nat} {w w1 : World} (h : Upd m n w w1) {a : Addr} (hs : (w.cell? a).isSome = true) (hm : a.block ∉ m) : w1.cell? a = w.cell? a := by
  obtain ⟨v, hv⟩ := Option.isSome_iff_exists.1 hs
  rw [hv]; exact h.cell hv hm
theorem Upd.frozen {m n : List Nat} {w w1 : World} (h : Upd m n w w1) {a : Addr} (hs : a.block < w.heap.size) (hm : a.block ∉ m) : w1.frozen? a = w.frozen? a := by
  simp only [World.frozen?, h.keep _ hs hm]

/-- cells written one behind the other -/
theorem Upd.setCells (w : World) (b o : Nat) (vs : List Value) : Upd [b] [] w (w.setCells b o vs) where
  os := (World.keptBut_setCells b (may := fun _ => True) vs o w (fun _ _ => trivial)).1
  tape := by
    have : ∀ (vs : List Value) (o : Nat) (w : World), (w.setCells b o vs).tape = w.tape := by
      intro vs
      induction vs with
      | nil => intro o w; rfl
      | cons v r ih => intro o w; rw [World.setCells, ih]; rfl
    exact this vs o w
  output := (World.keptBut_setCells b (may := fun _ => True) vs o w (fun _ _ => trivial)).2.1
  size := by
    have : ∀ (vs : List Value) (o : Nat) (w : World), (w.setCells b o vs).heap.size = w.heap.size := by
      intro vs
      induction vs with
      | nil => intro o w; rfl
      | cons v r ih => intro o w; rw [World.setCells, ih]; simp [World.setCell]
    rw [this]; exact Nat.le_refl _
  keep k hk hn := by
    have : ∀ (vs : List Value) (o : Nat) (w : World), (w.setCells b o vs).heap[k]? = w.heap[k]? := by
      intro vs
      induction vs with
      | nil => intro o w; rfl
      | cons v r ih =>
        intro o w
        rw [World.setCells, ih]
        exact Below.heap_setCell _ _ _ _ (by simp at hn; exact hn)
    exact this vs o w
  news := by simp

/-! ### what a slice holds -/
/-- how elements lie in cells -/
structure Cod (α : Type) where
  sz : Nat
  enc : α → List Value
  len : ∀ x, (enc x).length = sz
  one : ∀ x, ∀ v ∈ enc x, v.oneCell' = true

def Cod.cells {α : Type} (c : Cod α) (l : List α) : List Value := l.flatMap c.enc
@[simp] theorem Cod.cells_nil {α : Type} (c : Cod α) : c.cells [] = [] := rfl
theorem Cod.cells_cons {α : Type} (c : Cod α) (x : α) (l : List α) : c.cells (x :: l) = c.enc x ++ c.cells l := by simp [Cod.cells]
theorem Cod.cells_append {α : Type} (c : Cod α) (l m : List α) : c.cells (l ++ m) = c.cells l ++ c.cells m := by simp [Cod.cells]
theorem Cod.cells_length {α : Type} (c : Cod α) : ∀ (l : List α), (c.cells l).length = l.length * c.sz
  | [] => by simp
  | x :: l => by rw [Cod.cells_cons, List.length_append, c.len, Cod.cells_length c l, List.length_cons, Nat.add_mul]; omega
theorem Cod.cells_one {α : Type} (c : Cod α) (l : List α) : ∀ v ∈ c.cells l, v.oneCell' = true := fun v hv => by
  obtain ⟨x, _, hx⟩ := List.mem_flatMap.1 hv
  exact c.one x v hx
theorem mul_add_lt {i j n sz : Nat} (hi : i < n) (hj : j < sz) : i * sz + j < n * sz := by
  have h1 : (i + 1) * sz ≤ n * sz := Nat.mul_le_mul_right _ hi
  rw [Nat.add_mul] at h1
  omega
theorem Cod.cells_get {α : Type} (c : Cod α) : ∀ (l : List α) (i : Nat) (h : i < l.length) (j : Nat) (hj : j < (c.enc l[i]).length), (c.cells l)[i * c.sz + j]? = some (c.enc l[i])[j]
  | x :: l, 0, _, j, hj => by
    simp at hj
    rw [Cod.cells_cons]
    simp [List.getElem?_append_left, hj]
  | x :: l, i + 1, h, j, hj => by
    rw [Cod.cells_cons, List.getElem?_append_right (by rw [c.len, Nat.add_mul]; omega), c.len]
    have := Cod.cells_get c l i (by simpa using h) j (by simpa using hj)
    rw [show (i + 1) * c.sz + j - c.sz = i * c.sz + j by rw [Nat.add_mul]; omega]
    simpa using this
theorem Cod.cells_take {α : Type} (c : Cod α) (l : List α) (n : Nat) : (c.cells l).take (n * c.sz) = c.cells (l.take n) := by
  induction l generalizing n with
  | nil => simp
  | cons x l ih =>
    cases n with
    | zero => simp
    | succ n =>
      rw [Cod.cells_cons, List.take_succ_cons, Cod.cells_cons, ← ih n]
      rw [List.take_append, c.len, List.take_of_length_le (by rw [c.len, Nat.add_mul]; omega)]
      rw [show (n + 1) * c.sz - c.sz = n * c.sz by rw [Nat.add_mul]; omega]
theorem Cod.cells_drop {α : Type} (c : Cod α) (l : List α) (n : Nat) : (c.cells l).drop (n * c.sz) = c.cells (l.drop n) := by
  induction l generalizing n with
  | nil => simp
  | cons x l ih =>
    cases n with
    | zero => simp
    | succ n =>
      rw [Cod.cells_cons, List.drop_succ_cons, ← ih n, List.drop_append, c.len, List.drop_of_length_le (by rw [c.len, Nat.add_mul]; omega)]
      rw [show (n + 1) * c.sz - c.sz = n * c.sz by rw [Nat.add_mul]; omega]
      simp

/-- the cells from p on -/
def Cells (w : World) (p : Option Addr) (vs : List Value) : Prop :=
  match p with
  | none => vs = []
  | some a => ∀ i (h : i < vs.length), w.cell? (a.add i) = some vs[i]

def Sl.blk (s : Sl) : List Nat := match s.ptr with | none => [] | some a => [a.block]
theorem blk_some {s : Sl} {a : Addr} (h : s.ptr = some a) : s.blk = [a.block] := by simp [Sl.blk, h]
structure Sees {α : Type} (c : Cod α) (w : World) (s : Sl) (l : List α) : Prop where
  len : s.len = l.length
  row : Cells w s.ptr (c.cells l)

theorem Cells.upd {m n : List Nat} {w w1 : World} {p : Option Addr} {vs : List Value} (h : Cells w p vs) (u : Upd m n w w1) (hm : ∀ a, p = some a → vs ≠ [] → a.block ∉ m) : Cells w1 p vs := by
  cases p with
  | none => exact h
  | some a =>
    intro i hi
    exact u.cell (h i hi) (by simpa using hm a rfl (by intro e; rw [e] at hi; cases hi))
theorem Cells.app {w : World} {a : Addr} {x y : List Value} (h : Cells w (some a) (x ++ y)) : Cells w (some a) x ∧ Cells w (some (a.add x.length)) y := by
  refine ⟨fun i hi => ?_, fun i hi => ?_⟩
  · have := h i (by simp; omega)
    rwa [List.getElem_append_left hi] at this
  · have := h (x.length + i) (by simp; omega)
    rw [List.getElem_append_right (by omega)] at this
    rw [add_add]
    simpa using this
theorem Cells.mk {w : World} {a : Addr} {x y : List Value} (h : Cells w (some a) x) (k : Cells w (some (a.add x.length)) y) : Cells w (some a) (x ++ y) := by
  intro i hi
  by_cases hx : i < x.length
  · rw [List.getElem_append_left hx]; exact h i hx
  · rw [List.getElem_append_right (by omega)]
    have := k (i - x.length) (by simp at hi; omega)
    rw [add_add, show x.length + (i - x.length) = i by omega] at this
    exact this

section
variable {α : Type} {c : Cod α} {w w1 : World} {s : Sl} {l : List α}

theorem Sees.upd {m n : List Nat} (h : Sees c w s l) (u : Upd m n w w1) (hm : ∀ b ∈ s.blk, b ∉ m) : Sees c w1 s l :=
  ⟨h.len, h.row.upd u (fun a ha _ => hm _ (by simp [blk_some ha]))⟩
theorem Sees.old {n : List Nat} (h : Sees c w s l) (u : Upd [] n w w1) : Sees c w1 s l := h.upd u (by simp)

theorem Sees.nil (c : Cod α) (w : World) (p : Option Addr) (cap : Nat) : Sees c w ⟨p, 0, cap⟩ [] := ⟨rfl, by cases p <;> simp [Cells]⟩

/-- an element's cells -/
theorem Sees.elem (h : Sees c w s l) {i : Nat} (hi : i < l.length) : Cells w (some (s.at c.sz i)) (c.enc l[i]) := by
  intro j hj
  have hrow := h.row
  have hg := c.cells_get l i hi j hj
  cases hp : s.ptr with
  | none =>
    rw [hp] at hrow
    simp only [Cells] at hrow
    rw [hrow] at hg
    simp at hg
  | some a =>
    rw [hp] at hrow
    obtain ⟨hlt, he⟩ := List.getElem?_eq_some_iff.1 hg
    have := hrow _ hlt
    rw [he] at this
    simp only [Sl.at, hp, Option.getD_some, add_add]
    exact this
theorem Sees.ptr_some (h : Sees c w s l) (hz : 0 < c.sz) (hl : 0 < l.length) : ∃ a, s.ptr = some a := by
  cases hp : s.ptr with
  | some a => exact ⟨a, rfl⟩
  | none =>
    have hrow := h.row
    rw [hp] at hrow
    simp only [Cells] at hrow
    have := c.cells_length l
    rw [hrow] at this
    have h2 : 0 < l.length * c.sz := Nat.mul_pos hl hz
    simp at this
    omega
theorem Sees.isSome (h : Sees c w s l) (hz : 0 < c.sz) (hl : 0 < l.length) : s.ptr.isSome = true := by
  obtain ⟨a, ha⟩ := h.ptr_some hz hl
  simp [ha]

/-- a slice of the slice -/
theorem Sees.sub (h : Sees c w s l) {lo hi mx : Nat} (h1 : lo ≤ hi) (h2 : hi ≤ l.length) (h3 : hi ≤ mx) : Sees c w (s.sub c.sz lo hi mx) ((l.take hi).drop lo) where
  len := by simp [Sl.sub]; omega
  row := by
    have hrow := h.row
    rw [← c.cells_drop, ← c.cells_take]
    cases hp : s.ptr with
    | none =>
      rw [hp] at hrow
      simp only [Cells] at hrow
      simp only [hrow, Sl.sub, hp]
      simp [Cells]
    | some a =>
      rw [hp] at hrow
      by_cases e : mx = lo
      · have : hi = lo := by omega
        subst this
        have e2 : ((c.cells l).take (hi * c.sz)).drop (hi * c.sz) = [] := by simp
        rw [e2]
        simp only [Sl.sub]
        split <;> simp [Cells, hp]
      · simp only [Sl.sub, if_neg e, hp, Option.map_some]
        intro i hi'
        simp at hi'
        rw [add_add]
        simp only [List.getElem_drop, List.getElem_take]
        exact hrow _ (by omega)
theorem Sees.take (h : Sees c w s l) {n : Nat} (hn : n ≤ l.length) (cap : Nat) : Sees c w ⟨s.ptr, n, cap⟩ (l.take n) where
  len := by simp; omega
  row := by
    have hrow := h.row
    rw [← c.cells_take]
    cases hp : s.ptr with
    | none => rw [hp] at hrow; simp only [Cells] at hrow; simp [hrow, Cells]
    | some a =>
      rw [hp] at hrow
      intro i hi
      simp at hi
      simp only [List.getElem_take]
      exact hrow _ (by omega)

theorem Sees.rowAt (h : Sees c w s l) : RowAt w s.ptr (s.len * c.sz) (c.cells l) := by
  have hrow := h.row
  cases hp : s.ptr with
  | none => rw [hp] at hrow; exact hrow
  | some a =>
    rw [hp] at hrow
    exact ⟨by rw [c.cells_length, h.len], hrow, c.cells_one l⟩

/-- a slice's array may be written, and it is from block N on -/
structure Own (N : Nat) (sz : Nat) (w : World) (s : Sl) : Prop where
  le : s.len ≤ s.cap
  nil : s.ptr = none → s.cap = 0
  blk : ∀ b ∈ s.blk, N ≤ b ∧ b < w.heap.size
  cell : ∀ a, s.ptr = some a → a.spot = none ∧ ∀ i, i < s.cap * sz → (w.cell? (a.add i)).isSome = true ∧ w.frozen? (a.add i) = false

theorem Own.none (N sz : Nat) (w : World) : Own N sz w ⟨none, 0, 0⟩ := ⟨Nat.le_refl _, fun _ => rfl, by simp [Sl.blk], by simp⟩
theorem Own.upd {N sz : Nat} {m n : List Nat} (h : Own N sz w s) (u : Upd m n w w1) (hm : ∀ b ∈ s.blk, b ∉ m) : Own N sz w1 s where
  le := h.le
  nil := h.nil
  blk b hb := ⟨(h.blk b hb).1, Nat.lt_of_lt_of_le (h.blk b hb).2 u.size⟩
  cell a ha := ⟨(h.cell a ha).1, fun i hi => by
    have hb := hm a.block (by simp [blk_some ha])
    have h1 := (h.cell a ha).2 i hi
    have h2 := (h.blk a.block (by simp [blk_some ha])).2
    rw [u.cell' h1.1 (by simpa using hb), u.frozen (by simpa using h2) (by simpa using hb)]
    exact h1⟩
theorem Own.old {N sz : Nat} {n : List Nat} (h : Own N sz w s) (u : Upd [] n w w1) : Own N sz w1 s := h.upd u (by simp)
theorem Own.mono {N N' sz : Nat} (h : Own N sz w s) (hN : N' ≤ N) : Own N' sz w s := ⟨h.le, h.nil, fun b hb => ⟨Nat.le_trans hN (h.blk b hb).1, (h.blk b hb).2⟩, h.cell⟩

/-- cells of a row written anew -/
theorem isSome_setCells' (b : Nat) (vs : List Value) (o : Nat) (w : World) (a : Addr) (h : (w.cell? a).isSome = true) : ((w.setCells b o vs).cell? a).isSome = true := by
  have : ∀ (vs : List Value) (o : Nat) (w : World), (w.cell? a).isSome = true → ((w.setCells b o vs).cell? a).isSome = true := by
    intro vs
    induction vs with
    | nil => intro o w h; exact h
    | cons v r ih =>
      intro o w h
      rw [World.setCells]
      refine ih _ _ ?_
      by_cases e : (⟨b, o, Option.none⟩ : Addr) = a
      · obtain ⟨u, hu⟩ := Option.isSome_iff_exists.1 h
        rw [← e] at hu ⊢
        rw [World.cell?_setCell_same _ _ _ hu]; rfl
      · rw [World.cell?_setCell_other _ _ _ _ e]; exact h
  exact this vs o w h

end
end Go.Vc
end

section
namespace Go.Vc
set_option linter.unusedVariables false
set_option linter.unusedSimpArgs false
set_option autoImplicit false

section
variable {α : Type} {c : Cod α} {w w1 : World} {s : Sl} {l : List α}

theorem add_eq {a : Addr} (hs : a.spot = none) (i : Nat) : a.add i = ⟨a.block, a.off + i, none⟩ := by cases a; simp at hs; subst hs; exact add_none

theorem cells_write {a : Addr} {vs : List Value} (hs : a.spot = none) (o : Nat) (hex : ∀ i, i < vs.length → (w.cell? (a.add (o + i))).isSome = true) :
    Cells (w.setCells a.block (a.off + o) vs) (some (a.add o)) vs := by
  intro i hi
  rw [add_add, add_eq hs]
  have := World.cell?_setCells_in a.block vs (a.off + o) w (fun j hj => by
    have := hex j hj
    rw [add_eq hs] at this
    rwa [show a.off + o + j = a.off + (o + j) by omega]) i hi
  rwa [show a.off + o + i = a.off + (o + i) by omega] at this
theorem cells_apart {a : Addr} {x vs : List Value} (hs : a.spot = none) (o p : Nat) (h : Cells w (some (a.add p)) x) (hp : p + x.length ≤ o ∨ o + vs.length ≤ p) :
    Cells (w.setCells a.block (a.off + o) vs) (some (a.add p)) x := by
  intro i hi
  have := h i hi
  rw [add_add, add_eq hs] at this ⊢
  rw [World.cell?_setCells_out _ _ _ _ _ (fun _ _ => by simp; omega)]
  exact this

theorem off_add {a : Addr} (hs : a.spot = none) (n : Nat) : (a.add n).off = a.off + n := by rw [add_eq hs]

theorem frozen_setCells' (b o : Nat) (vs : List Value) (a : Addr) : (w.setCells b o vs).frozen? a = w.frozen? a := World.frozen?_setCells b vs o w a

theorem Own.setCells {N sz : Nat} (h : Own N sz w s) (b o : Nat) (vs : List Value) : Own N sz (w.setCells b o vs) s where
  le := h.le
  nil := h.nil
  blk b' hb := ⟨(h.blk b' hb).1, by rw [setCells_size]; exact (h.blk b' hb).2⟩
  cell a ha := ⟨(h.cell a ha).1, fun i hi => ⟨isSome_setCells' _ _ _ _ _ ((h.cell a ha).2 i hi).1, by rw [frozen_setCells']; exact ((h.cell a ha).2 i hi).2⟩⟩

theorem appendN_own {N e by_ n : Nat} {new : List α} {bs : List Nat} {F : Sl → World → Prop} (h : Sees c w s l) (o : Own N c.sz w s) (hN : N ≤ w.heap.size) (hn : n = new.length)
    (hbs : ∀ b ∈ s.blk, b ∉ bs) (hpos : 0 < by_) (hb : (l.length + new.length) * by_ ≤ 140737488355328)
    (k : ∀ r w1, Sees c w1 r (l ++ new) → Own N c.sz w1 r → Upd s.blk [] w w1 → (∀ b ∈ r.blk, b ∈ s.blk ∨ w.heap.size ≤ b) → F r w1) : AppendN e c.sz by_ s n (c.cells new) bs w F := by
  subst hn
  have hlen := h.len
  refine ⟨fun hfit => ?_, fun hgrow => ⟨?_, ?_, c.cells l, h.rowAt, fun cap b cs w1 hcap u hb1 htake hsize => ?_⟩⟩
  · cases hp : s.ptr with
    | none =>
      have h0 := o.nil hp
      have e1 : new = [] := by cases new with | nil => rfl | cons => simp at hfit; omega
      subst e1
      have el : (⟨none, s.len + ([] : List α).length, s.cap⟩ : Sl) = s := by cases s; simp at hp; subst hp; rfl
      show F ⟨none, s.len + ([] : List α).length, s.cap⟩ w
      rw [el]
      exact k s w (by simpa using h) o ((Upd.refl w).wide (by simp)) (fun b hb => .inl hb)
    | some a =>
      obtain ⟨hs, hc⟩ := o.cell a hp
      have hmul : (s.len + new.length) * c.sz ≤ s.cap * c.sz := Nat.mul_le_mul_right _ hfit
      rw [Nat.add_mul] at hmul
      have hlc := c.cells_length new
      have hll := c.cells_length l
      have hrow := h.row
      rw [hp] at hrow
      refine ⟨fun i hi => ?_, ?_, ?_⟩
      · rw [add_add]
        exact hc _ (by omega)
      · simp only [add_block]
        exact hbs _ (by simp [blk_some hp])
      · show F _ (w.setCells (a.add (s.len * c.sz)).block (a.add (s.len * c.sz)).off (c.cells new))
        rw [off_add hs, add_block]
        refine k _ _ ⟨by simp [hlen], ?_⟩ ?_ ((Upd.setCells w a.block _ _).wide (by simp [blk_some hp])) (fun b hb => .inl (by simp [blk_some hp]; simpa [Sl.blk] using hb))
        · rw [c.cells_append]
          refine Cells.mk ?_ ?_
          · have := cells_apart (vs := c.cells new) hs (s.len * c.sz) 0 (by simpa using hrow) (.inl (by rw [hll, hlen]; omega))
            simpa using this
          · rw [hll, ← hlen]
            exact cells_write hs _ (fun i hi => (hc _ (by omega)).1)
        · have := (o.setCells a.block (a.off + s.len * c.sz) (c.cells new))
          exact ⟨by simp; omega, by simp, by simpa [Sl.blk, hp] using this.blk, fun a' ha' => by simp at ha'; subst ha'; exact this.cell a hp⟩
  · have : l.length + new.length ≤ (l.length + new.length) * by_ := Nat.le_mul_of_pos_right _ hpos
    omega
  · rw [hlen]
    rw [hlen] at hgrow
    exact growslice_fits hgrow hb
  · have hll := c.cells_length l
    have hln := c.cells_length new
    have hmul : (s.len + new.length) * c.sz + (cap - (s.len + new.length)) * c.sz = cap * c.sz := by rw [← Nat.add_mul]; congr 1; omega
    rw [Nat.add_mul] at hmul
    have hsz : cs.size = cap * c.sz := by rw [hsize, hll, hln, hlen] at *; omega
    have hget : ∀ i (hi : i < (c.cells l ++ c.cells new).length), cs[i]? = some (c.cells l ++ c.cells new)[i] := by
      intro i hi
      have e1 : (cs.toList.take ((c.cells l).length + (c.cells new).length))[i]? = some (c.cells l ++ c.cells new)[i] := by rw [htake]; exact List.getElem?_eq_getElem hi
      rw [List.getElem?_take, if_pos (by simpa using hi)] at e1
      simpa using e1
    have hbn := u.new (b := b) (by simp)
    refine k _ _ ⟨by simp [hlen], ?_⟩ ?_ ((u.mono (m' := s.blk) (n' := []) (by simp) (by simp))) (fun b' hb' => by simp [Sl.blk] at hb'; subst hb'; exact .inr hbn.1)
    · rw [c.cells_append]
      intro i hi
      rw [add_none, Nat.zero_add, cell_of_block hb1]
      exact hget i hi
    · refine ⟨by simpa using hcap, by simp, fun b' hb' => ?_, fun a ha => ?_⟩
      · simp [Sl.blk] at hb'
        subst hb'
        exact ⟨Nat.le_trans hN hbn.1, hbn.2⟩
      · simp at ha
        subst ha
        refine ⟨rfl, fun i hi => ?_⟩
        rw [add_none, cell_of_block hb1, frozen_of_block hb1]
        simp at hi
        simp [hsz, hi]

theorem append_own {N e by_ : Nat} {x : Sl} {new : List α} {bs : List Nat} {F : Sl → World → Prop} (h : Sees c w s l) (o : Own N c.sz w s) (hx : Sees c w x new) (hN : N ≤ w.heap.size)
    (hbs : ∀ b ∈ s.blk, b ∉ bs) (hpos : 0 < by_) (hb : (l.length + new.length) * by_ ≤ 140737488355328)
    (k : ∀ r w1, Sees c w1 r (l ++ new) → Own N c.sz w1 r → Upd s.blk [] w w1 → (∀ b ∈ r.blk, b ∈ s.blk ∨ w.heap.size ≤ b) → F r w1) : Append e c.sz by_ s x bs w F :=
  ⟨c.cells new, hx.rowAt, appendN_own h o hN hx.len hbs hpos hb k⟩
/-- an element is written -/
theorem own_set {N : Nat} {i : Nat} {x : α} {vs : List Value} {bs : List Nat} {F : World → Prop} (h : Sees c w s l) (o : Own N c.sz w s) (hz : 0 < c.sz) (hi : i < l.length) (hv : vs = c.enc x) (hbs : ∀ b ∈ s.blk, b ∉ bs)
    (k : ∀ w1, Sees c w1 s (l.set i x) → Own N c.sz w1 s → Upd s.blk [] w w1 → F w1) : Store w (s.at c.sz i) vs bs F := by
  subst hv
  obtain ⟨a, hp⟩ := h.ptr_some hz (by omega)
  obtain ⟨hs, hc⟩ := o.cell a hp
  have hat : s.at c.sz i = a.add (i * c.sz) := by simp [Sl.at, hp]
  have hlen := h.len
  have hle := o.le
  have hlx := c.len x
  have hrow := h.row
  rw [hp] at hrow
  have hm : ∀ j, j < c.sz → i * c.sz + j < s.cap * c.sz := fun j hj => mul_add_lt (by omega) hj
  refine ⟨fun j hj => ?_, ?_, ?_⟩
  · rw [hat, add_add]
    exact hc _ (hm j (by omega))
  · rw [hat, add_block]
    exact hbs _ (by simp [blk_some hp])
  · rw [hat, off_add hs, add_block]
    refine k _ ⟨by simpa using hlen, ?_⟩ (o.setCells _ _ _) ((Upd.setCells w a.block _ _).wide (by simp [blk_some hp]))
    rw [hp]
    have e1 : l.set i x = l.take i ++ x :: l.drop (i + 1) := by rw [List.set_eq_take_append_cons_drop, if_pos hi]
    have e2 : l = l.take i ++ l.drop i := (List.take_append_drop i l).symm
    have e3 : l.drop i = l[i] :: l.drop (i + 1) := List.drop_eq_getElem_cons hi
    rw [e1, c.cells_append, c.cells_cons]
    have h1 : (c.cells (l.take i)).length = i * c.sz := by rw [c.cells_length, List.length_take]; congr 1; omega
    have hrow' : Cells w (some a) (c.cells (l.take i) ++ (c.enc l[i] ++ c.cells (l.drop (i + 1)))) := by
      rw [← c.cells_cons, ← e3, ← c.cells_append, ← e2]; exact hrow
    obtain ⟨r1, r2⟩ := hrow'.app
    obtain ⟨r3, r4⟩ := r2.app
    rw [h1] at r4
    rw [add_add, c.len] at r4
    refine Cells.mk ?_ (Cells.mk ?_ ?_)
    · have := cells_apart (vs := c.enc x) hs (i * c.sz) 0 (by simpa using r1) (.inl (by omega))
      simpa using this
    · rw [h1]
      exact cells_write hs _ (fun j hj => (hc _ (hm j (by omega))).1)
    · rw [h1, add_add, hlx]
      exact cells_apart hs _ _ r4 (.inr (by omega))

/-- a new row -/
theorem sees_row {b e n cap : Nat} {f : Nat × Nat} {cs : List Value} (h : w.heap[b]? = some (.cells cs.toArray e f)) (l : List α) (hl : cs = c.cells l) (hn : n = l.length) : Sees c w ⟨some ⟨b, 0, none⟩, n, cap⟩ l := by
  subst hl hn
  refine ⟨rfl, fun i hi => ?_⟩
  rw [add_none, cell_of_block h]
  simp [hi]
theorem own_row {N b e n cap : Nat} {cs : List Value} {sz : Nat} (h : w.heap[b]? = some (.cells cs.toArray e (0, 0))) (hN : N ≤ b) (hl : cs.length = cap * sz) (hn : n ≤ cap) : Own N sz w ⟨some ⟨b, 0, none⟩, n, cap⟩ where
  le := hn
  nil := by simp
  blk b' hb := by simp [Sl.blk] at hb; subst hb; exact ⟨hN, (Array.getElem?_eq_some_iff.1 h).1⟩
  cell a ha := by
    simp at ha
    subst ha
    refine ⟨rfl, fun i hi => ?_⟩
    rw [add_none, cell_of_block h, frozen_of_block h]
    simp at hi
    simp [hl, hi]

end

theorem Cod.cells_map1 {α : Type} {c : Cod α} {g : α → Value} (h : ∀ x, c.enc x = [g x]) : ∀ (l : List α), c.cells l = l.map g
  | [] => rfl
  | x :: l => by rw [Cod.cells_cons, h, Cod.cells_map1 h l]; rfl

/-! ### bytes -/
def cU8 : Cod Int := ⟨1, fun n => [.int .u8 n], fun _ => rfl, by simp [Value.oneCell']⟩
def cI64 : Cod Int := ⟨1, fun n => [.int .i64 n], fun _ => rfl, by simp [Value.oneCell']⟩
def cSl : Cod Sl := ⟨1, fun s => [s.val], fun _ => rfl, by simp [Value.oneCell', Sl.val]⟩
abbrev SeesB (w : World) (s : Sl) (l : List Int) : Prop := Sees cU8 w s l
/-- the byte at a place (0 outside) -/
def bt (l : List Int) (i : Int) : Int := l.getD i.toNat 0
def Byt (l : List Int) : Prop := ∀ x ∈ l, 0 ≤ x ∧ x < 256
theorem Byt.bt {l : List Int} (h : Byt l) (i : Int) : 0 ≤ bt l i ∧ bt l i < 256 := by
  unfold Go.Vc.bt
  rw [List.getD_eq_getElem?_getD]
  by_cases hi : i.toNat < l.length
  · rw [List.getElem?_eq_getElem hi]; exact h _ (List.getElem_mem hi)
  · rw [List.getElem?_eq_none (by omega)]; simp
theorem Byt.app {l m : List Int} (h : Byt l) (k : Byt m) : Byt (l ++ m) := fun x hx => by rcases List.mem_append.1 hx with h' | h'; exact h x h'; exact k x h'
theorem Byt.nil : Byt [] := by simp [Byt]
theorem Byt.take {l : List Int} (h : Byt l) (n : Nat) : Byt (l.take n) := fun x hx => h x (List.mem_of_mem_take hx)
theorem Byt.drop {l : List Int} (h : Byt l) (n : Nat) : Byt (l.drop n) := fun x hx => h x (List.mem_of_mem_drop hx)
theorem Sees.byte {w : World} {s : Sl} {l : List Int} (h : Sees cU8 w s l) {i : Int} (h0 : 0 ≤ i) (hi : i < l.length) : w.cell? (s.at 1 i.toNat) = some (.int .u8 (bt l i)) := by
  have := h.elem (i := i.toNat) (by omega) 0 (by simp [cU8])
  rw [add_zero] at this
  rw [show cU8.sz = 1 from rfl] at this
  rw [this]
  simp [cU8, bt, List.getD_eq_getElem?_getD, List.getElem?_eq_getElem (show i.toNat < l.length by omega)]
theorem Sees.subB {w : World} {s : Sl} {l : List Int} (h : Sees cU8 w s l) {lo hi mx : Nat} (h1 : lo ≤ hi) (h2 : hi ≤ l.length) (h3 : hi ≤ mx) : Sees cU8 w (s.sub 1 lo hi mx) ((l.take hi).drop lo) := h.sub h1 h2 h3
end Go.Vc
end

section
namespace Go.Vc
set_option linter.unusedVariables false
set_option linter.unusedSimpArgs false
set_option autoImplicit false

/-! ### steps of a statement -/
section
variable {X Y : Prop}
theorem brd {p : Prop} [Decidable p] (h1 : p → X) (h2 : ¬p → Y) : Br (decide p) X Y := Br_iff.2 ⟨fun h => h1 (of_decide_eq_true h), fun h => h2 (of_decide_eq_false h)⟩
theorem brb {c : Bool} (h1 : c = true → X) (h2 : c = false → Y) : Br c X Y := Br_iff.2 ⟨h1, h2⟩
theorem brn {c : Bool} (h1 : c = false → X) (h2 : c = true → Y) : Br (!c) X Y := Br_iff.2 ⟨fun h => h1 (by simpa using h), fun h => h2 (by simpa using h)⟩
theorem bre {α : Type} [BEq α] [LawfulBEq α] {a b : α} (h1 : a = b → X) (h2 : a ≠ b → Y) : Br (a == b) X Y := Br_iff.2 ⟨fun h => h1 (by simpa using h), fun h => h2 (by simpa using h)⟩
theorem bre' {α : Type} [BEq α] [LawfulBEq α] {a b : α} (h1 : a ≠ b → X) (h2 : a = b → Y) : Br (a != b) X Y := Br_iff.2 ⟨fun h => h1 (by simpa using h), fun h => h2 (by simpa using h)⟩
theorem brt {c : Bool} (h : c = true) (x : X) : Br c X Y := by subst h; exact x
theorem brf {c : Bool} (h : c = false) (y : Y) : Br c X Y := by subst h; exact y
theorem need {c : Bool} (h : c = true) (x : X) : Need c X := Need_iff.2 ⟨h, x⟩
theorem needIx {i n : Int} {o : Option Addr} (h0 : 0 ≤ i) (h1 : i < n) (h2 : o.isSome = true) (x : X) : Need (decide (0 ≤ i) && decide (i < n) && o.isSome) X := need (by simp [h0, h1, h2]) x
theorem needIx2 {i n : Int} (h0 : 0 ≤ i) (h1 : i < n) (x : X) : Need (decide (0 ≤ i) && decide (i < n)) X := need (by simp [h0, h1]) x
theorem needIxLe {i n : Int} (h0 : 0 ≤ i) (h1 : i ≤ n) (x : X) : Need (decide (0 ≤ i) && decide (i ≤ n)) X := need (by simp [h0, h1]) x
theorem needNe {a b : Int} (h : a ≠ b) (x : X) : Need (a != b) X := need (by simp [h]) x
theorem needSl {l h m : Int} (a : 0 ≤ h) (b : h ≤ m) (c : 0 ≤ l) (d : l ≤ h) (x : X) : Need (decide (0 ≤ h) && decide (h ≤ m) && (decide (0 ≤ l) && decide (l ≤ (h.toNat : Int)))) X :=
  need (by simp [a, b, c]; omega) x
end

/-! ### numbers -/
theorem wr_i64 {x : Int} (h1 : -9223372036854775808 ≤ x) (h2 : x ≤ 9223372036854775807) : wr .i64 x = x := by
  unfold wr IntKind.wrap
  simp only [IntKind.bits, IntKind.signed, Bool.true_and, decide_eq_true_eq, ge_iff_le]
  split <;> omega
theorem wr_succ {q : Nat} (h : q < 9223372036854775807) : wr .i64 ((q : Int) + 1) = ((q + 1 : Nat) : Int) := by rw [wr_i64 (by omega) (by omega)]; omega
theorem wr_u8 (x : Int) : wr .u8 x = x % 256 := by
  unfold wr IntKind.wrap
  simp only [IntKind.bits, IntKind.signed, Bool.false_and, Bool.false_eq_true, if_false]
  omega
theorem tmod_pos {a b : Int} (h : 0 ≤ a) : Int.tmod a b = a % b := Int.tmod_eq_emod_of_nonneg h
theorem tdiv_pos {a b : Int} (h : 0 ≤ a) : Int.tdiv a b = a / b := Int.tdiv_eq_ediv_of_nonneg h
end Go.Vc
end
