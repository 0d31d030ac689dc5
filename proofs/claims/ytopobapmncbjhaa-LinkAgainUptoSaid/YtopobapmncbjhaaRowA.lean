import Derived.Test.YtopobapmncbjhaaOpen
import Derived.Carry
import Derived.SizedLaws
import Derived.Deep.CondSized
namespace Go.Vc
open Go.ChangeShapes Go.WideShapes Go.ChangeAt Go.RowKit
set_option linter.unusedVariables false
set_option linter.unusedSimpArgs false
set_option autoImplicit false

section
variable {H : Type} {X : Tab} (ok : TabOK X) {enc : TypeId × Value → H} {w : World}

def ArgsD (X : Tab) (w : World) : List Nat → List SV → List (DataW H) → Prop
  | [], [], [] => True
  | t :: ts, x :: xs, d :: ds => (∃ m, Deep X w m (X.T t) x d) ∧ x.shape (X.T t) = true ∧ ArgsD X w ts xs ds
  | _, _, _ => False

include ok in
theorem value_enc {t : Nat} {v : Value} {sv : SV} (hv : Value.okWide X.P w .any 0 t v ∨ ∃ b, Value.okWide X.P w .any b t v) (hs : sv.shape (X.T t) = true) (hr : isData (X.T t) = true) (hc : v.cells.toList = sv.cells) (hnp : ∀ e, X.T t ≠ .ptr e) (hnm : X.T t ≠ .map) : v = sv.enc := by
  obtain ⟨b, hv⟩ : ∃ b, Value.okWide X.P w .any b t v := by rcases hv with h | h; exact ⟨0, h⟩; exact h
  have hty := ok.ty t
  cases hT : X.T t with
  | int k =>
    rw [hT] at hty hs
    obtain ⟨n, rfl⟩ := okWide_int (t := t) hty hv
    rw [enc_scalar hs rfl] at hc
    simpa [Value.cells] using hc
  | bool =>
    rw [hT] at hty hs
    obtain ⟨n, rfl⟩ := okWide_bool (t := t) hty hv
    rw [enc_scalar hs rfl] at hc
    simpa [Value.cells] using hc
  | str =>
    rw [hT] at hty hs
    obtain ⟨n, rfl⟩ := okWide_string (t := t) hty hv
    rw [enc_scalar hs rfl] at hc
    simpa [Value.cells] using hc
  | slice e =>
    rw [hT] at hty hs
    obtain ⟨a, l, c, rfl⟩ := okWide_slice (t := t) hty hv
    rw [enc_scalar hs rfl] at hc
    simpa [Value.cells] using hc
  | arr k n =>
    rw [hT] at hty hs
    obtain ⟨e, hu, _⟩ := hty
    unfold Value.okWide at hv
    rw [hu] at hv
    obtain ⟨cs, rfl, _⟩ := hv
    rw [enc_agg hs rfl]
    simp only [Value.cells] at hc
    rw [← hc]
  | struct bb ts =>
    rw [hT] at hty hs
    have hu : ∃ cs, v = .agg cs := by
      cases bb with
      | false =>
        obtain ⟨fs, hu, _⟩ := hty
        unfold Value.okWide at hv
        rw [hu] at hv
        obtain ⟨cs, h, _⟩ := hv
        exact ⟨cs, h⟩
      | true =>
        obtain ⟨n, e, hu, _⟩ := hty
        unfold Value.okWide at hv
        rw [hu] at hv
        obtain ⟨cs, h, _⟩ := hv
        exact ⟨cs, h⟩
    obtain ⟨cs, rfl⟩ := hu
    rw [enc_agg hs rfl]
    simp only [Value.cells] at hc
    rw [← hc]
  | ptr e => exact absurd hT (hnp e)
  | map => exact absurd hT hnm
  | tuple ts => rw [hT] at hr; cases hr
  | other => rw [hT] at hr; cases hr

theorem rd_noptr {f : Nat → Bool} {t : Ty} (h : t.rd f = true) : (∀ e, t ≠ .ptr e) ∧ t ≠ .map := by cases t <;> simp [Ty.rd] at h <;> simp

include ok in
theorem args_deep {m : Nat} : ∀ {ts : List TypeId} {vs : List Value} {ds : List (DataW H)} {ps : List MemPlace}, DataW.TrodAll enc X.P w 0 (fun _ => true) true ts vs ds ps →
    (∀ (j : Nat) t v, ts[j]? = some t → vs[j]? = some v → ∃ b, Value.okWide X.P w .any b t v) → (ts.all fun t => (X.T t).rd (rdN X m)) = true →
    ∃ svs, vs = SV.encL svs ∧ ArgsD X w ts svs ds
  | [], vs, ds, ps, h, _, _ => by
    obtain ⟨rfl, rfl, rfl⟩ := trodAll_nil h
    exact ⟨[], rfl, trivial⟩
  | t :: ts, vs, ds, ps, h, hv, hr => by
    obtain ⟨v, vs', d, ds', p, q, rfl, rfl, rfl, ⟨fuel, hd⟩, hrest⟩ := trodAll_cons h
    simp only [List.all_cons, Bool.and_eq_true] at hr
    obtain ⟨sv, e1, e2, e3⟩ := deep_of_trod ok fuel m t _ _ _ hr.1 hd
    obtain ⟨svs, g1, g2⟩ := args_deep hrest (fun j t v h1 h2 => hv (j + 1) t v (by simpa using h1) (by simpa using h2)) hr.2
    have hve := value_enc ok (.inr (hv 0 t v rfl rfl)) e2 (rd_data hr.1) e1 (rd_noptr hr.1).1 (rd_noptr hr.1).2
    exact ⟨sv :: svs, by rw [hve, g1]; rfl, ⟨fuel, e3⟩, e2, g2⟩

/-- the arguments read as they did -/
theorem args_same {P : Program} (hl : laidOutB P = true) {W W' : World} (hb : Below W.heap.size W W') : ∀ {ts : List TypeId} {vs : List Value} {ds : List (DataW H)} {ps : List MemPlace},
    DataW.TrodAll enc P W 0 (fun _ => true) true ts vs ds ps → (ts.all fun t => P.readableRec t && decide (t < P.types.size)) = true →
    DataW.TrodAll enc P W' 0 (fun b => decide (b < W.heap.size)) true ts vs ds ps
  | [], vs, ds, ps, h, _ => by
    obtain ⟨rfl, rfl, rfl⟩ := trodAll_nil h
    exact trodAll_mk0
  | t :: ts, vs, ds, ps, h, hr => by
    obtain ⟨v, vs', d, ds', p, q, rfl, rfl, rfl, hd, hrest⟩ := trodAll_cons h
    simp only [List.all_cons, Bool.and_eq_true, decide_eq_true_eq] at hr
    have hlt : ∀ x ∈ p, x.block < W.heap.size := by obtain ⟨m, hm⟩ := hd; exact DataW.trod_lt m _ _ _ hm
    exact ⟨p, q, Below.trod hl hr.1.1 hr.1.2 hd hb hlt, args_same hl hb hrest hr.2, rfl⟩

include ok in
/-- a law's call, out of its contract -/
theorem law_post {fn : Func} {f : Nat} {spec : ChangeSpec} {ts : List TypeId} {tb : TypeId} {m : Nat} (hl : laidOutB X.P = true) (hts : fn.params.toList = ts) (hres : fn.resultTypes = #[tb]) (htb : X.P.underlying tb = some .bool)
    (hvars : spec.vars = []) (hspec : ∀ ds : List (DataW H), ds.length = ts.length → spec.fn H ds = { results := [.lit (.bool true)], args := ds })
    (hr : (ts.all fun t => (X.T t).rd (rdN X m)) = true) (hr2 : (ts.all fun t => X.P.readableRec t && decide (t < X.P.types.size)) = true)
    {W : World} {args : Array Value} {ds gs : List (DataW H)} {before : List MemPlace} {base : Nat}
    (hval : ∀ (j : Nat) t v, fn.params[j]? = some t → args[j]? = some v → Value.okWide X.P W .any base t v)
    (hW : DataW.Whole enc X.P fn.params.toList spec.vars false W args.toList ds gs before)
    (walk : ∀ svs, ArgsD X W ts svs ds → Ret X.P f svs W fun r w1 => r = .bool true ∧ Upd [] [] W w1) :
    Calls X.P f args W fun e W' => ∃ v, e = .returned v ∧ spec.post enc X.P fn false true false false W args v W' := by
  have hW' := hW
  obtain ⟨p, q, hA, hV, rfl, hfz, hnd⟩ := hW
  rw [hvars] at hV
  obtain ⟨rfl, rfl⟩ := trodVars_none hV
  rw [hts] at hA
  obtain ⟨svs, h1, h2⟩ := args_deep ok hA (fun j t v g1 g2 => ⟨base, hval j t v (by simpa [← hts] using g1) (by simpa using g2)⟩) hr
  have hargs : args = (SV.encL svs).toArray := by cases args; simp_all
  have hlen : ds.length = ts.length := by
    have : ∀ (ts : List Nat) (svs : List SV) (ds : List (DataW H)), ArgsD X W ts svs ds → ds.length = ts.length := by
      intro ts
      induction ts with
      | nil => intro svs ds h; cases svs <;> cases ds <;> simp [ArgsD] at h <;> rfl
      | cons t ts ih => intro svs ds h; cases svs <;> cases ds <;> simp [ArgsD] at h; simp [ih _ _ h.2.2]
    exact this _ _ _ h2
  have hw := walk svs h2
  unfold Ret at hw
  rw [← hargs] at hw
  refine hw.mono fun e W' ⟨r, he, hr', hu⟩ => ?_
  subst hr'
  subst he
  have hb := hu.below (by simp)
  have hsp := hspec ds hlen
  refine ⟨_, rfl, _, _, _, [], p, [], hW', ?_, ?_, ?_, hb.frame _, fun h => by cases h⟩
  · rw [hres, List.append_nil, hsp]
    exact trodAll_mk1 (shut_bool htb _)
  · rw [List.append_nil, hsp, hts]
    exact args_same hl hb hA hr2
  · rw [List.append_nil, hsp, hvars]
    rfl
end

/-! ### what is known of arguments -/
section
variable {H : Type} {X : Tab} {w : World}
theorem argsD_nil {svs : List SV} {ds : List (DataW H)} (h : ArgsD X w [] svs ds) : svs = [] ∧ ds = [] := by
  cases svs <;> cases ds <;> simp [ArgsD] at h
  exact ⟨rfl, rfl⟩
theorem argsD_cons {t : Nat} {ts : List Nat} {svs : List SV} {ds : List (DataW H)} (h : ArgsD X w (t :: ts) svs ds) :
    ∃ x xs d ds' m, svs = x :: xs ∧ ds = d :: ds' ∧ Deep X w m (X.T t) x d ∧ ArgsD X w ts xs ds' := by
  cases svs <;> cases ds <;> simp [ArgsD] at h
  obtain ⟨⟨m, h1⟩, h2, h3⟩ := h
  exact ⟨_, _, _, _, m, rfl, rfl, h1, h3⟩
theorem deep_int {m : Nat} {k : IntKind} {t : Nat} {x : SV} {d : DataW H} (hT : X.T t = .int k) (h : Deep X w m (X.T t) x d) : ∃ n, x = .int k n ∧ (Lit.int k n).wf = true := by
  rw [hT] at h
  cases m with
  | zero => exact h.elim
  | succ m => simp only [Deep] at h; obtain ⟨n, h1, h2, h3⟩ := h; exact ⟨n, h1, h3⟩
theorem deep_bool {m : Nat} {t : Nat} {x : SV} {d : DataW H} (hT : X.T t = .bool) (h : Deep X w m (X.T t) x d) : ∃ b, x = .bool b := by
  rw [hT] at h
  cases m with
  | zero => exact h.elim
  | succ m => simp only [Deep] at h; obtain ⟨n, h1, h2⟩ := h; exact ⟨n, h1⟩
theorem wf_i64 {n : Int} (h : (Lit.int .i64 n).wf = true) : -9223372036854775808 ≤ n ∧ n ≤ 9223372036854775807 := by
  simpa [Lit.wf, IntKind.min, IntKind.max, IntKind.signed, IntKind.bits] using h
theorem wf_u8 {n : Int} (h : (Lit.int .u8 n).wf = true) : 0 ≤ n ∧ n < 256 := by
  have : 0 ≤ n ∧ n ≤ 255 := by simpa [Lit.wf, IntKind.min, IntKind.max, IntKind.signed, IntKind.bits] using h
  omega
/-- bytes -/
theorem deep_bytes {m t e : Nat} {x : SV} {d : DataW H} (hT : X.T t = .slice e) (hE : X.T e = .int .u8) (h : Deep X w m (X.T t) x d) :
    ∃ (s : Sl) (l : List Int), x = .slice s ∧ SeesB w s l ∧ Byt l ∧ s.len ≤ s.cap ∧ s.cap ≤ maxLen ∧ (d = .nil ∧ s = ⟨none, 0, 0⟩ ∨ ∃ els sp, d = .slice els sp ∧ els.length = l.length ∧ els.length + sp.length = s.cap) := by
  rw [hT] at h
  cases m with
  | zero => exact h.elim
  | succ m =>
    simp only [Deep] at h
    rcases h with ⟨rfl, rfl⟩ | ⟨a, len, cap, vs, ds, rfl, rfl, hl, hm, hv, hd, h⟩
    · exact ⟨⟨none, 0, 0⟩, [], rfl, Sees.nil _ _ _ _, Byt.nil, Nat.le_refl _, by simp [maxLen], .inl ⟨rfl, rfl⟩⟩
    · rw [hE] at h
      let num : SV → Int := fun v => match v with | .int _ n => n | _ => 0
      have each : ∀ i (hi : i < cap), w.cell? (a.add i) = some (.int .u8 (num (vs[i]'(by omega)))) ∧ 0 ≤ num (vs[i]'(by omega)) ∧ num (vs[i]'(by omega)) < 256 := by
        intro i hi
        obtain ⟨h1, h2, h3⟩ := h i _ _ (List.getElem?_eq_getElem (by omega)) (List.getElem?_eq_getElem (by omega))
        cases m with
        | zero => exact h3.elim
        | succ m =>
          simp only [Deep] at h3
          obtain ⟨n, g1, _, g3⟩ := h3
          have := h2 0 (by rw [g1]; simp [SV.cells])
          rw [g1]
          simp [g1, SV.cells, Ty.size] at this
          exact ⟨this, wf_u8 g3⟩
      refine ⟨⟨some a, len, cap⟩, (vs.take len).map num, rfl, ⟨by simp; omega, ?_⟩, ?_, hl, hm, .inr ⟨_, _, rfl, by simp; omega, by simp; omega⟩⟩
      · intro i hi
        have hc : cU8.cells ((vs.take len).map num) = ((vs.take len).map num).map fun n => Value.int .u8 n := Cod.cells_map1 (fun _ => rfl) _
        simp only [hc, List.getElem_map, List.getElem_take]
        rw [hc] at hi
        simp at hi
        exact (each i (by omega)).1
      · intro y hy
        obtain ⟨v, hv', rfl⟩ := List.mem_map.1 hy
        obtain ⟨i, hi, rfl⟩ := List.getElem_of_mem hv'
        simp at hi
        simp only [List.getElem_take]
        exact (each i (by omega)).2
end
end Go.Vc
