import Derived.Test.YtopobapmncbjhaaVcJ
namespace Go.Vc
open Go.RowKit (Below)
set_option linter.unusedSimpArgs false
set_option linter.unusedVariables false
set_option autoImplicit false

theorem setCells_heap (b : Nat) : ∀ (vs : List Value) (o : Nat) (w : World) (k : Nat), k ≠ b → (w.setCells b o vs).heap[k]? = w.heap[k]?
  | [], _, _, _, _ => rfl
  | v :: r, o, w, k, h => by rw [World.setCells, setCells_heap b r _ _ k h, Below.heap_setCell _ _ _ _ h]
theorem setCells_size (b : Nat) : ∀ (vs : List Value) (o : Nat) (w : World), (w.setCells b o vs).heap.size = w.heap.size
  | [], _, _ => rfl
  | v :: r, o, w => by rw [World.setCells, setCells_size b r]; simp [World.setCell]
theorem setCells_os (b : Nat) : ∀ (vs : List Value) (o : Nat) (w : World), (w.setCells b o vs).os = w.os ∧ (w.setCells b o vs).tape = w.tape ∧ (w.setCells b o vs).output = w.output
  | [], _, _ => ⟨rfl, rfl, rfl⟩
  | v :: r, o, w => by rw [World.setCells]; exact setCells_os b r _ _

theorem setCell_at (w : World) (b o : Nat) (v : Value) (c : Array Value) (e : TypeId) (fr : Nat × Nat) (h : w.heap[b]? = some (.cells c e fr)) : (w.setCell ⟨b, o, none⟩ v).heap[b]? = some (.cells (c.setIfInBounds o v) e fr) := by
  have hlt : b < w.heap.size := (Array.getElem?_eq_some_iff.1 h).1
  have hv : w.heap[b] = .cells c e fr := (Array.getElem?_eq_some_iff.1 h).2
  unfold World.setCell
  rw [Array.getElem?_eq_getElem (by simpa using hlt), Array.getElem_modify]
  simp [hv]

/-- the row behind a store -/
theorem setCells_at (b : Nat) (e : TypeId) (fr : Nat × Nat) : ∀ (vs pre old post : List Value) (w : World), w.heap[b]? = some (.cells (pre ++ old ++ post).toArray e fr) → old.length = vs.length →
    (w.setCells b pre.length vs).heap[b]? = some (.cells (pre ++ vs ++ post).toArray e fr)
  | [], pre, old, post, w, h, hl => by simp at hl; subst hl; exact h
  | v :: r, pre, [], post, w, h, hl => by simp at hl
  | v :: r, pre, u :: old, post, w, h, hl => by
    have h1 := setCell_at w b pre.length v _ e fr h
    have h2 : ((pre ++ u :: old ++ post).toArray).setIfInBounds pre.length v = ((pre ++ [v]) ++ old ++ post).toArray := by apply Array.ext'; simp
    rw [h2] at h1
    have := setCells_at b e fr r (pre ++ [v]) old post _ h1 (by simpa using hl)
    simp only [World.setCells]
    simpa using this

theorem store_run {P : Program} {w : World} {a : Addr} {vs : List Value} (h1 : ∀ v ∈ vs, v.oneCell' = true) (hc : ∀ i, i < vs.length → (w.cell? (a.add i)).isSome = true ∧ w.frozen? (a.add i) = false) :
    (storeCells a vs).run P w = .ok () (w.setCells a.block a.off vs) := by
  cases vs with
  | nil => rfl
  | cons v r =>
    have hs : a.spot = none := by
      have := (hc 0 (by simp)).1
      have h0 : a.add 0 = a := rfl
      rw [h0] at this
      unfold World.cell? at this
      cases hsp : a.spot with
      | none => rfl
      | some x => rw [hsp] at this; revert this; cases w.heap[a.block]? with
        | none => simp
        | some o => cases o <;> simp
    obtain ⟨b, o, sp⟩ := a
    simp only at hs
    subst hs
    have hadd : ∀ j, (⟨b, o, none⟩ : Addr).add j = ⟨b, o + j, none⟩ := fun j => by unfold Addr.add; split <;> simp_all
    have := run_storeCells_cells (P := P) b o (v :: r) 0 w (fun j hj => by have := (hc j hj).1; rwa [hadd] at this) (fun j hj => by have := (hc j hj).2; rwa [hadd] at this) h1
    simpa using this

/-- stores leave all other blocks -/
theorem store_upd {w : World} (a : Addr) (vs : List Value) : Upd [a.block] [] w (w.setCells a.block a.off vs) :=
  ⟨(setCells_os _ _ _ _).1, (setCells_os _ _ _ _).2.1, (setCells_os _ _ _ _).2.2, by rw [setCells_size]; exact Nat.le_refl _, fun k hk hm => setCells_heap _ _ _ _ _ (by simpa using hm), by simp⟩

theorem live_mem {s : St} {i b t : Nat} {c : SV} (hb : s.bx i = some (.box b t c)) : ∀ {l : List Nat}, i ∈ l → b ∈ s.liveFrom l
  | [], h => by cases h
  | x :: r, h => by
    simp only [St.liveFrom]
    rcases List.mem_cons.1 h with rfl | h
    · rw [hb]; simp
    · split
      · exact List.mem_cons_of_mem _ (live_mem hb h)
      · exact live_mem hb h
theorem mem_upFrom : ∀ {n a i : Nat}, i ∈ upFrom a n ↔ a ≤ i ∧ i < a + n
  | 0, a, i => by simp [upFrom] <;> omega
  | n + 1, a, i => by simp [upFrom, mem_upFrom (n := n)] <;> omega
theorem live_of {s : St} {i b t : Nat} {c : SV} (hb : s.bx i = some (.box b t c)) (hi : i < s.nb) : b ∈ s.live := live_mem hb (mem_upFrom.2 ⟨Nat.zero_le _, by omega⟩)

theorem liveFrom_congr {s s' : St} (h : s'.bx = s.bx) : ∀ l, s'.liveFrom l = s.liveFrom l
  | [] => rfl
  | i :: r => by simp only [St.liveFrom, h, liveFrom_congr h r]
theorem live_clean (s : St) : s.clean.live = s.live := liveFrom_congr (s := s) (s' := s.clean) rfl _

section
variable {X : Tab} (ok : TabOK X) {N : Nat} {s : St} {w : World} {a : Act} {wa : World} {o : Oper} {K : St → World → Prop} {Q : Exit → Act → World → Prop}

/-- what a world operation that leaves the boxes alone comes to -/
theorem world_post (hr : Rel X N s.clean wa a wa) (hd : ∀ t, o.dst = some t → t < N) {s0 : St} (h0 : s0.nb = s.nb) (hbx : isStore o = false → escapes s0 o = false → s.bx = s0.bx) {w2 : World} {v : Value} {sv : SV} (hp : plain sv = true) (hv : v = sv.enc)
    (hk : ∀ b ∈ s.live, w2.heap[b]? = wa.heap[b]?) (hK : K (s.clean.putD o.dst sv) w2) : OpPost X N K s0 o a (a.put o.dst v) w2 := by
  refine ⟨_, w2, hK, ?_, by rw [putD_nb]; exact Nat.le_of_eq h0, fun h1 h2 i _ => by rw [putD_bx]; exact congrFun (hbx h1 h2) i, v, rfl⟩
  have := hr.world (w2 := w2) (fun i b t c hb => hk b (live_of hb (hr.bx i b t c hb).1))
  exact this.putD hd ((relv_plain hp).2 hv) (fun id off p e => by subst e; simp [plain] at hp)

theorem keeps_live (hr : Rel X N s.clean wa a wa) {w2 : World} {F : Prop} (h : keepsThen s.live wa w2 F) : F ∧ ∀ b ∈ s.live, w2.heap[b]? = wa.heap[b]? := by
  unfold keepsThen at h
  split at h
  · rename_i e; exact ⟨h, fun b hb => by rw [e] at hb; cases hb⟩
  · rename_i x r e
    refine ⟨h.2, fun b hb => ?_⟩
    rw [e] at hb
    rcases h.1 with hu | hk
    · have : ∃ i t c, s.bx i = some (.box b t c) := by
        have : ∀ l, b ∈ s.liveFrom l → ∃ i t c, s.bx i = some (.box b t c) := by
          intro l
          induction l with
          | nil => intro h; cases h
          | cons i l ih =>
            intro h
            simp only [St.liveFrom] at h
            split at h
            · rename_i b' t c hb'
              rcases List.mem_cons.1 h with rfl | h
              · exact ⟨i, t, c, hb'⟩
              · exact ih h
            · exact ih h
        exact this _ (by rw [← e] at hb; exact hb)
      obtain ⟨i, t, c, hi⟩ := this
      exact hu.keep b (Array.getElem?_eq_some_iff.1 (hr.bx i b t c hi).2.1).1 (by simp)
    · exact hk b hb

include ok in
/-- a call -/
theorem call_wp {c : Call} {f : Operand} {cs l : List SV} {fid : Nat} (hop : o.op = .call c) (hcal : c.callee = .value f) (hr : Rel X N s w a wa) (hd : ∀ t, o.dst = some t → t < N)
    (hf : s.ev f = some (.clo fid cs)) (hC : X.C fid = true) (hl : s.evs c.args.toList = some l) (hp : allPlain l = true) {s0 : St} (h0 : s0.nb = s.nb) (hbx : escapes s0 o = false → s.bx = s0.bx)
    (h : s.flush w fun s w => Ret X.P fid (l ++ cs) w fun r w1 => (X.T o.type).ex fun v => r = v ∧ keepsThen s.live w w1 (K (s.putD o.dst v) w1)) : o.wp X.P a wa (OpPost X N K s0 o a) Q := by
  have h1 := flush_sound h hr
  have hfv := hr.ev f _ hf
  simp only [RelV, SV.enc] at hfv
  have hargs := evs_sound hr.ev hl hp
  obtain ⟨fn, hfn, hbody, hname⟩ := ok.call fid hC
  have hrun : (execOp a.eval o).run X.P wa = .ok (.enter fid (SV.encL (l ++ cs)).toArray) wa := by
    have ha : c.args.map a.eval = (SV.encL l).toArray := by rw [← hargs]; apply Array.ext'; simp
    have he : SV.encL (l ++ cs) = SV.encL l ++ SV.encL cs := by rw [encL_eq, encL_eq, encL_eq, List.map_append]
    have hname' : ¬ (fn.name = "runtime.NumGoroutine") := by simpa using hname
    have hb' : ¬ fn.body = none := by intro e; rw [e] at hbody; cases hbody
    simp [execOp, hop, resolve, hcal, hfv, Deferred.ofValue, ha, invoke, callFunc, run_program, hfn, hname', hb', he]
  unfold Oper.wp
  rw [hrun, Oper.upon_enter]
  have h2 : Calls X.P fid (SV.encL (l ++ cs)).toArray wa _ := h1
  refine h2.mono fun e w1 hpost => ?_
  obtain ⟨r, rfl, hex⟩ := hpost
  -- the typed result
  have exsound : ∀ (t : Ty) (F : SV → Prop), t.ex F → ∃ v, F v ∧ plain v = true := by
    intro t
    induction t using Ty.rec (motive_2 := fun ts => ∀ F : List SV → Prop, Ty.exs ts F → ∃ l, F l) with
    | int k => intro F ⟨n, h⟩; exact ⟨_, h, rfl⟩
    | bool => intro F ⟨n, h⟩; exact ⟨_, h, rfl⟩
    | str => intro F ⟨n, h⟩; exact ⟨_, h, rfl⟩
    | ptr e => intro F ⟨n, h⟩; exact ⟨_, h, rfl⟩
    | slice e => intro F ⟨n, h⟩; exact ⟨_, h, rfl⟩
    | map => intro F ⟨n, h⟩; exact ⟨_, h, rfl⟩
    | arr k n => intro F ⟨n, h⟩; exact ⟨_, h, rfl⟩
    | struct b ts ih => intro F h; obtain ⟨l, h⟩ := ih _ h; exact ⟨_, h, rfl⟩
    | tuple ts ih => intro F h; obtain ⟨l, h⟩ := ih _ h; exact ⟨_, h, rfl⟩
    | other => intro F ⟨n, h⟩; exact ⟨_, h, rfl⟩
    | nil => rename_i F h; exact ⟨_, h⟩
    | cons t r ih1 ih2 => rename_i F h; obtain ⟨x, h, _⟩ := ih1 _ h; obtain ⟨l, h⟩ := ih2 _ h; exact ⟨_, h⟩
  obtain ⟨v, ⟨rfl, hk⟩, hpl⟩ := exsound _ _ hex
  rw [live_clean] at hk
  obtain ⟨hK, hkeep⟩ := keeps_live hr.clean hk
  exact world_post hr.clean hd h0 (fun _ h => hbx h) hpl rfl hkeep hK
end
end Go.Vc
