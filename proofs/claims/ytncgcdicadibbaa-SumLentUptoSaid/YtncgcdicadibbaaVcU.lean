import Derived.Test.YtncgcdicadibbaaVcT
namespace Go.Vc
open Go.RowKit (Below)
set_option linter.unusedSimpArgs false
set_option linter.unusedVariables false
set_option autoImplicit false

/-- one result of a call -/
def resOne (tmps : Array Value) : ResultVar → Sem Value
  | .tmp t => pure (tmps.getD t undef)
  | .cell a t => do loadVar t (← asAddr (tmps.getD a undef))

section
variable {X : Tab} (ok : TabOK X) {N : Nat}

include ok in
theorem resSV_run {s : St} {w : World} {a : Act} {wa : World} (hr : Rel X N s w a wa) : ∀ {rs : List ResultVar} {l : List SV}, resSV X s rs = some l → allPlain l = true →
    (rs.mapM (resOne a.tmps)).run X.P wa = .ok (SV.encL l) wa
  | [], l, h, _ => by
    simp only [resSV, Option.some.injEq] at h
    subst h
    simp [SV.encL]
  | .tmp t :: r, l, h, hp => by
    simp only [resSV] at h
    split at h
    · rename_i x l' h1 h2
      obtain rfl : x :: l' = l := by simpa using h
      simp only [allPlain, Bool.and_eq_true] at hp
      have ih := resSV_run hr h2 hp.2
      have hx := (relv_plain hp.1).1 (hr.env t x h1)
      simp only [List.mapM_cons, Sem.run_bind, resOne, Sem.run_pure, Result.andThen_ok, ih, hx, SV.encL]
    · cases h
  | .cell b t :: r, l, h, hp => by
    simp only [resSV] at h
    split at h
    · rename_i id off p l' h1 h2
      split at h
      · rename_i hli
        split at h
        · rename_i bb bt c hb
          split at h
          · rename_i x hx
            obtain rfl : x :: l' = l := by simpa using h
            simp only [allPlain, Bool.and_eq_true] at hp
            have ih := resSV_run hr h2 hp.2
            have hv := hr.env b _ h1
            obtain ⟨b2, bt2, c2, g1, g2, g3⟩ := lIs_path hv hli
            rw [hb] at g1
            simp at g1
            obtain ⟨rfl, rfl, rfl⟩ := g1
            obtain ⟨_, _, k3⟩ := hr.bx id bb bt c hb
            have hD : isData (X.T t) = true := by
              obtain ⟨y, hy, hys, _⟩ := path_get k3 g3
              cases hT : X.T t <;> rw [hT] at hys <;> first | rfl | (cases y <;> simp [SV.shape] at hys)
            obtain ⟨z, k4, rfl, k6⟩ := box_load (F := fun z => z = x) (wa := wa) ok (fun b' t' c' hb' => (hr.bx _ b' t' c' hb').2) hv hli hD (by rw [hb]; exact ifSome_iff.2 ⟨x, hx, rfl⟩)
            rw [g2] at k6
            have k7 : (loadVar t ⟨bb, off, none⟩).run X.P wa = .ok z.enc wa := by
              simpa [Instr.loadAt, Instr.sureAddr] using k6
            simp only [List.mapM_cons, Sem.run_bind, resOne, g2, asAddr, Sem.run_pure, Result.andThen_ok, k7, ih, SV.encL]
          · cases h
        · cases h
      · cases h
    · cases h

theorem encL_length (l : List SV) : (SV.encL l).length = l.length := by rw [encL_eq]; simp

include ok in
theorem results_run {s : St} {w : World} {a : Act} {wa : World} (hr : Rel X N s w a wa) {fn : Func} {l : List SV} (h : resSV X s fn.results.toList = some l) (hp : allPlain l = true) :
    (results fn a.tmps).run X.P wa = .ok (oneOf l).enc wa := by
  have h1 := resSV_run ok hr h hp
  have h2 : (fn.results.mapM (resOne a.tmps)).run X.P wa = .ok (SV.encL l).toArray wa := by
    rw [Array.mapM_eq_mapM_toList, ← bind_pure_comp, Sem.run_bind, h1]
    simp
  have h3 : results fn a.tmps = (do let vs ← fn.results.mapM (resOne a.tmps); pure (if h : vs.size = 1 then vs[0] else .tuple vs)) := by
    unfold results
    congr 1
  rw [h3, Sem.run_bind, h2]
  simp only [Result.andThen_ok, Sem.run_pure]
  congr 1
  match l with
  | [] => simp [oneOf, SV.enc, SV.encL]
  | [x] => simp [oneOf, SV.encL]
  | x :: y :: r => simp [oneOf, SV.enc, SV.encL]

theorem argsEnv_get : ∀ (l : List SV) (i u : Nat) (v : SV), argsEnv l i u = some v → i ≤ u ∧ l[u - i]? = some v
  | [], i, u, v, h => by simp [argsEnv] at h
  | x :: r, i, u, v, h => by
    simp only [argsEnv] at h
    split at h
    · rename_i e
      have := nbeq.1 e
      subst this
      simp at h
      simp [h]
    · rename_i e
      have hne := nbeq_false.1 e
      obtain ⟨h1, h2⟩ := argsEnv_get r (i + 1) u v h
      refine ⟨by omega, ?_⟩
      rw [show u - i = (u - (i + 1)) + 1 by omega]
      simpa using h2

theorem allPlain_mem : ∀ {l : List SV}, allPlain l = true → ∀ x ∈ l, plain x = true
  | [], _, x, h => by cases h
  | y :: r, hp, x, h => by
    simp only [allPlain, Bool.and_eq_true] at hp
    rcases List.mem_cons.1 h with rfl | h
    · exact hp.1
    · exact allPlain_mem hp.2 x h

/-- the temporaries that the code writes are the function's -/
def writesOK (fn : Func) : Bool := match fn.body with | some c => (codeW c).all fun t => Nat.blt t fn.ntmps | none => false

include ok in
theorem fnVC_sound {f : Nat} {fn : Func} {n : Ann} {args : List SV} {w : World} {R : SV → World → Prop} (h : fnVC X fn n args w R) (hf : X.P.funcs[f]? = some fn)
    (hW : writesOK fn = true) (hp : allPlain args = true) : Ret X.P f args w R := by
  unfold fnVC at h
  unfold writesOK at hW
  cases hb : fn.body with
  | none => rw [hb] at hW; cases hW
  | some c =>
    rw [hb] at h hW
    simp only at h hW
    unfold Ret
    refine calls_of_wp hf hb ?_
    let a0 : Act := { tmps := (SV.encL args).toArray ++ Array.replicate (fn.ntmps - (SV.encL args).toArray.size) undef, defers := [] }
    have hrel : Rel X a0.tmps.size (start args) w a0 w := {
      defers := rfl
      size := rfl
      env := fun t v hv => by
        simp only [start] at hv
        obtain ⟨_, hg⟩ := argsEnv_get args 0 t v hv
        simp only [Nat.sub_zero] at hg
        have hpl := allPlain_mem hp v (List.mem_of_getElem? hg)
        refine (relv_plain hpl).2 ?_
        have hlt : t < args.length := (List.getElem?_eq_some_iff.1 hg).1
        simp only [a0, Array.getD_eq_getD_getElem?]
        rw [Array.getElem?_append_left (by simp [encL_length]; exact hlt)]
        simp [encL_eq, hg]
      bx := fun i b t c hb => by simp [start] at hb
      sep := fun i j b t c b' t' c' hb => by simp [start] at hb
      lp := fun u id off p hu => by
        simp only [start] at hu
        obtain ⟨_, hg⟩ := argsEnv_get args 0 u _ hu
        have hpl := allPlain_mem hp _ (List.mem_of_getElem? hg)
        simp [plain] at hpl
      nb0 := Nat.le_refl _
      newIn := fun i b t c hb => by simp [start] at hb
      modIn := fun i b t c hb => by simp [start] at hb
      idlt := by simp [start]
      upd := Upd.refl w
      cln := fun _ => rfl }
    have hN : ∀ t ∈ codeW c, t < a0.tmps.size := fun t ht => by
      have := List.all_eq_true.1 hW t ht
      simp at this
      simp [a0, encL_length]
      omega
    have key := vc_sound ok c n (start args) w a0 w _ _ _ h hrel hN
    have fin : ∀ (s : St) (w1 : World) (a1 : Act) (wa1 : World), (match resSV X s fn.results.toList with
      | some l => s.esc w1 l fun s w => s.flush w fun s w => match resSV X s fn.results.toList with
        | some l => (match allPlain l with | true => R (oneOf l) w | false => False)
        | none => False
      | none => False) → Rel X a0.tmps.size s w1 a1 wa1 → a1.defers = [] ∧ ∃ v, (results fn a1.tmps).run X.P wa1 = .ok v wa1 ∧ (∃ r, (Ending.returned v) = .returned r.enc ∧ R r wa1) := by
      intro s w1 a1 wa1 hh hr1
      refine ⟨hr1.defers, ?_⟩
      split at hh
      · obtain ⟨s', w', g1, g2, _⟩ := esc_sound hh hr1
        have g3 := flush_sound g1 g2
        split at g3
        · rename_i l hl
          split at g3
          · rename_i hpl
            exact ⟨_, results_run ok g2.clean hl hpl, _, rfl, g3⟩
          · cases g3
        · cases g3
      · cases hh
    refine wp_mono key ?_
    intro e a1 wa1 hpost
    cases e <;> simp only [Post, bodyPost] at hpost ⊢
    case normal =>
      obtain ⟨⟨s1, w1, h1, h2⟩, _⟩ := hpost
      exact fin s1 w1 a1 wa1 h1 h2
    case ret =>
      obtain ⟨s1, w1, h1, h2⟩ := hpost
      exact fin s1 w1 a1 wa1 h1 h2
    case exit i => exact hpost.1.elim fun s1 h => h.elim fun w1 h => h.1
end
end Go.Vc
