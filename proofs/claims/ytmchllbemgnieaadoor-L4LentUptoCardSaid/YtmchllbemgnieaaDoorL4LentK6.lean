import Derived.Test.YtmchllbemgnieaaDoorL4LentK2
import Derived.OpenShut
import Derived.ProofKit
import Derived.ChangeOld
import Derived.JoinedCond
import Derived.Carry
import Derived.SizedLaws
import Derived.Deep.CondSized
import Derived.Test.YtmchllbemgnieaaDoorL4LentK5
import Derived.KernelRfl
section
namespace Go.Vc
open Go.ChangeShapes Go.WideShapes Go.ChangeAt Go.RowKit
set_option linter.unusedVariables false
set_option linter.unusedSimpArgs false
set_option autoImplicit false

/-! ### an argument that can be read as data, in the words of SV -/
mutual
def Ty.rd (f : Nat → Bool) : Ty → Bool
  | .int _ => true | .bool => true | .str => true | .arr _ _ => true
  | .slice e => f e
  | .struct _ ts => Ty.rds f ts
  | _ => false
def Ty.rds (f : Nat → Bool) : List Ty → Bool
  | [] => true
  | t :: r => t.rd f && Ty.rds f r
end
def rdN (X : Tab) : Nat → Nat → Bool
  | 0, _ => false
  | n + 1, t => (X.T t).rd (rdN X n)

section
variable {H : Type}
def All3 (R : Ty → SV → DataW H → Prop) : List Ty → List SV → List (DataW H) → Prop
  | [], [], [] => True
  | t :: ts, x :: xs, d :: ds => R t x d ∧ All3 R ts xs ds
  | _, _, _ => False

def Deep (X : Tab) (w : World) : Nat → Ty → SV → DataW H → Prop
  | 0, _, _, _ => False
  | m + 1, t, sv, d => match t with
    | .int k => ∃ n, sv = .int k n ∧ d = .lit (.int k n) ∧ (Lit.int k n).wf = true
    | .bool => ∃ b, sv = .bool b ∧ d = .lit (.bool b)
    | .str => ∃ s : ByteArray, sv = .str s ∧ d = .lit (.string s.data.toList) ∧ s.size ≤ maxLen
    | .arr k n => ∃ (f : Nat → Int) (l : List (DataW H)), sv = .arr k n f ∧ d = .agg l ∧ l.length = n ∧ ∀ i, i < n → l[i]? = some (.lit (.int k (f i))) ∧ (Lit.int k (f i)).wf = true
    | .struct _ ts => ∃ fs l, sv = .struct fs ∧ d = .agg l ∧ All3 (Deep X w m) ts fs l
    | .slice e => (sv = .slice ⟨none, 0, 0⟩ ∧ d = .nil) ∨ ∃ (a : Addr) (len cap : Nat) (vs : List SV) (ds : List (DataW H)), sv = .slice ⟨some a, len, cap⟩ ∧ d = .slice (ds.take len) (ds.drop len) ∧
        len ≤ cap ∧ cap ≤ maxLen ∧ vs.length = cap ∧ ds.length = cap ∧
        ∀ i sv d, vs[i]? = some sv → ds[i]? = some d → sv.shape (X.T e) = true ∧ Cells w (some (a.add (i * (X.T e).size))) sv.cells ∧ Deep X w m (X.T e) sv d
    | _ => False

variable {X : Tab} (ok : TabOK X) {enc : TypeId × Value → H} {w : World}
include ok in
theorem cellsOf_eq {t : Nat} (ht : isData (X.T t) = true) : X.P.cellsOf t = (X.T t).size := by
  obtain ⟨i, h1, h2, _⟩ := ok.info t ht
  simp [Program.cellsOf, h1, h2]

theorem rd_data {f : Nat → Bool} {t : Ty} (h : t.rd f = true) : isData t = true := by cases t <;> simp [Ty.rd] at h <;> rfl

theorem drop_take_split {cs : List Value} {o n : Nat} (h : o + n ≤ cs.length) : cs.drop o = (cs.drop o).take n ++ cs.drop (o + n) := by
  rw [← List.drop_drop, List.take_append_drop]

include ok in
theorem fields_deep {fuel m : Nat} {cs : List Value} {xs : List (DataW H × List MemPlace)}
    (ih : ∀ t cs d ps, (X.T t).rd (rdN X m) = true → DataW.trod enc X.P w 0 (fun _ => true) true fuel t cs = some (d, ps) → ∃ sv, cs = sv.cells ∧ sv.shape (X.T t) = true ∧ Deep X w fuel (X.T t) sv d) :
    ∀ (fs : List Field) (ts : List Ty) (off : Nat) (k : Nat), fieldsOK X fs ts off → Ty.rds (rdN X m) ts = true → xs.length = k + fs.length → cs.length = off + Ty.sizes ts →
    (∀ i f, fs[i]? = some f → DataW.trod enc X.P w 0 (fun _ => true) true fuel f.type (List.take (X.P.cellsOf f.type) (List.drop f.offset cs)) = xs[k + i]?) →
    ∃ svs, cs.drop off = SV.cellsL svs ∧ SV.shapes svs ts = true ∧ All3 (Deep X w fuel) ts svs ((xs.drop k).map (·.1))
  | [], [], off, k, _, _, hx, hc, _ => by
    simp [Ty.sizes] at hc hx
    exact ⟨[], by simp [SV.cellsL, hc], rfl, by rw [List.drop_of_length_le (by omega)]; exact trivial⟩
  | f :: fr, t :: tr, off, k, hf, hr, hx, hc, hk => by
    obtain ⟨h1, rfl, _, h4⟩ := hf
    simp only [Ty.rds, Bool.and_eq_true] at hr
    have hsz := cellsOf_eq ok (rd_data hr.1)
    simp only [Ty.sizes] at hc
    simp at hx
    have h0 := hk 0 f rfl
    rw [hsz, h1] at h0
    have hlt : k < xs.length := by omega
    rw [Nat.add_zero, List.getElem?_eq_getElem hlt] at h0
    obtain ⟨sv, e1, e2, e3⟩ := ih f.type _ _ _ hr.1 h0
    obtain ⟨svs, g1, g2, g3⟩ := fields_deep (cs := cs) (xs := xs) ih fr tr (off + (X.T f.type).size) (k + 1) h4 hr.2 (by omega) (by omega) (fun i g hg => by
      have := hk (i + 1) g (by simpa using hg)
      rwa [show k + 1 + i = k + (i + 1) by omega])
    refine ⟨sv :: svs, ?_, by simp [SV.shapes, e2, g2], ?_⟩
    · rw [drop_take_split (cs := cs) (o := off) (n := (X.T f.type).size) (by omega), e1, g1]
      rfl
    · rw [List.drop_eq_getElem_cons hlt]
      exact ⟨e3, g3⟩
  | [], _ :: _, _, _, hf, _, _, _, _ => by simp [fieldsOK] at hf
  | _ :: _, [], _, _, hf, _, _, _, _ => by simp [fieldsOK] at hf

include ok in
theorem elems_deep {fuel m e n : Nat} {cs : List Value} {xs : List (DataW H × List MemPlace)}
    (ih : ∀ t cs d ps, (X.T t).rd (rdN X m) = true → DataW.trod enc X.P w 0 (fun _ => true) true fuel t cs = some (d, ps) → ∃ sv, cs = sv.cells ∧ sv.shape (X.T t) = true ∧ Deep X w fuel (X.T t) sv d)
    (hr : (X.T e).rd (rdN X m) = true) (hx : xs.length = n) (hk : ∀ i, i < n → DataW.trod enc X.P w 0 (fun _ => true) true fuel e (List.take (X.P.cellsOf e) (List.drop (i * X.P.cellsOf e) cs)) = xs[i]?) :
    ∀ (j k : Nat), k + j = n → cs.length = n * (X.T e).size → 
    ∃ svs, cs.drop (k * (X.T e).size) = SV.cellsL svs ∧ SV.shapes svs (List.replicate j (X.T e)) = true ∧ All3 (Deep X w fuel) (List.replicate j (X.T e)) svs ((xs.drop k).map (·.1))
  | 0, k, hn, hc => by
    have : k = n := by omega
    subst this
    exact ⟨[], by simp [SV.cellsL, hc], rfl, by rw [List.drop_of_length_le (by omega)]; exact trivial⟩
  | j + 1, k, hn, hc => by
    have hsz := cellsOf_eq ok (rd_data hr)
    have hlt : k < xs.length := by omega
    have h0 := hk k (by omega)
    rw [hsz, List.getElem?_eq_getElem hlt] at h0
    obtain ⟨sv, e1, e2, e3⟩ := ih e _ _ _ hr h0
    obtain ⟨svs, g1, g2, g3⟩ := elems_deep ih hr hx hk j (k + 1) (by omega) hc
    have hm : (k + 1) * (X.T e).size ≤ n * (X.T e).size := Nat.mul_le_mul_right _ (by omega)
    rw [Nat.add_mul] at hm g1
    refine ⟨sv :: svs, ?_, by simp [List.replicate_succ, SV.shapes, e2, g2], ?_⟩
    · rw [drop_take_split (cs := cs) (o := k * (X.T e).size) (n := (X.T e).size) (by omega), e1]
      rw [Nat.one_mul] at g1
      rw [g1]; rfl
    · rw [List.drop_eq_getElem_cons hlt, List.replicate_succ]
      exact ⟨e3, g3⟩

theorem all3_ints {R : Ty → SV → DataW H → Prop} {k : IntKind} (hR : ∀ sv d, R (.int k) sv d → ∃ n, sv = .int k n ∧ d = .lit (.int k n) ∧ (Lit.int k n).wf = true) :
    ∀ (n : Nat) (svs : List SV) (ds : List (DataW H)), All3 R (List.replicate n (.int k)) svs ds →
    ∃ f : Nat → Int, SV.cellsL svs = (List.range n).map (fun i => .int k (f i)) ∧ ds.length = n ∧ ∀ i, i < n → ds[i]? = some (.lit (.int k (f i))) ∧ (Lit.int k (f i)).wf = true
  | 0, [], [], _ => ⟨fun _ => 0, by simp [SV.cellsL], rfl, by simp⟩
  | n + 1, sv :: svs, d :: ds, h => by
    rw [List.replicate_succ] at h
    obtain ⟨h1, h2⟩ := h
    obtain ⟨x, rfl, rfl, hw⟩ := hR _ _ h1
    obtain ⟨f, g1, g2, g3⟩ := all3_ints hR n svs ds h2
    refine ⟨fun i => if i = 0 then x else f (i - 1), ?_, by simp [g2], ?_⟩
    · rw [List.range_succ_eq_map, SV.cellsL, g1]
      simp [SV.cells, Function.comp_def]
    · intro i hi
      cases i with
      | zero => simp [hw]
      | succ i => simpa using g3 i (by omega)
  | 0, [], _ :: _, h => by simp [All3] at h
  | 0, _ :: _, _, h => by simp [All3] at h
  | n + 1, [], _, h => by simp [List.replicate_succ, All3] at h
  | n + 1, _ :: _, [], h => by simp [List.replicate_succ, All3] at h

include ok in
theorem deep_of_trod : ∀ (fuel m : Nat) (t : Nat) (cs : List Value) (d : DataW H) (ps : List MemPlace), (X.T t).rd (rdN X m) = true → DataW.trod enc X.P w 0 (fun _ => true) true fuel t cs = some (d, ps) →
    ∃ sv, cs = sv.cells ∧ sv.shape (X.T t) = true ∧ Deep X w fuel (X.T t) sv d := by
  intro fuel
  induction fuel with
  | zero => intro m t cs d ps _ h; simp [DataW.trod] at h
  | succ fuel ih =>
    intro m t cs d ps hr h
    have hty := ok.ty t
    have hsz := cellsOf_eq ok (rd_data hr)
    cases hT : X.T t with
    | int k =>
      rw [hT] at hty
      obtain ⟨n, rfl, hx, hw⟩ := DataW.trod_int (t := t) hty h
      simp at hx
      exact ⟨.int k n, rfl, by simp [SV.shape, ksame_refl], by simp only [Deep]; exact ⟨n, rfl, hx.1, hw⟩⟩
    | bool =>
      rw [hT] at hty
      obtain ⟨n, rfl, hx⟩ := DataW.trod_bool (t := t) hty h
      simp at hx
      exact ⟨.bool n, rfl, by simp [SV.shape], by simp only [Deep]; exact ⟨n, rfl, hx.1⟩⟩
    | str =>
      rw [hT] at hty
      obtain ⟨n, rfl, hx, hw⟩ := DataW.trod_string (t := t) hty h
      simp at hx
      exact ⟨.str n, rfl, by simp [SV.shape], by simp only [Deep]; exact ⟨n, rfl, hx.1, hw⟩⟩
    | arr k n =>
      rw [hT] at hty hsz
      obtain ⟨e, hu, he⟩ := hty
      obtain ⟨xs, m', hm', hx, hlen, hxs, hk⟩ := DataW.trod_array hu h
      have hm'' : fuel = m' := by omega
      subst hm''
      simp only [Prod.mk.injEq] at hx
      have hee : (X.T e).rd (rdN X m) = true := by rw [he]; rfl
      obtain ⟨svs, g1, g2, g3⟩ := elems_deep ok (ih m) hee hxs hk n 0 (by omega) (by rw [hlen, hsz, he]; simp [Ty.size])
      rw [he] at g3
      obtain ⟨f, q1, q2, q3⟩ := all3_ints (fun sv d hd => by
        cases fuel with
        | zero => simp [Deep] at hd
        | succ q => simpa only [Deep] using hd) n svs _ g3
      refine ⟨.arr k n f, ?_, by simp [SV.shape, ksame_refl], ?_⟩
      · simp at g1; rw [g1, q1]; rfl
      · simp only [Deep]
        exact ⟨f, _, rfl, hx.1, by simpa using q2, by simpa using q3⟩
    | struct b ts =>
      rw [hT] at hty hsz hr
      cases b with
      | false =>
        obtain ⟨fs, hu, hfo, _⟩ := hty
        obtain ⟨xs, m', hm', hx, hlen, hxs, hk⟩ := DataW.trod_struct hu h
        have hm'' : fuel = m' := by omega
        subst hm''
        simp only [Prod.mk.injEq] at hx
        obtain ⟨svs, g1, g2, g3⟩ := fields_deep ok (ih m) fs.toList ts 0 0 hfo (by simpa only [Ty.rd] using hr) (by simpa using hxs) (by rw [hlen, hsz]; simp [Ty.size]) (fun i f hf => by simpa using hk i f (by simpa using hf))
        refine ⟨.struct svs, by simpa [SV.cells] using g1, by simpa [SV.shape] using g2, ?_⟩
        simp only [Deep]
        exact ⟨svs, _, rfl, hx.1, by simpa using g3⟩
      | true =>
        obtain ⟨n, e, hu, rfl, hde⟩ := hty
        obtain ⟨xs, m', hm', hx, hlen, hxs, hk⟩ := DataW.trod_array hu h
        have hm'' : fuel = m' := by omega
        subst hm''
        simp only [Prod.mk.injEq] at hx
        have hss : ∀ n : Nat, Ty.sizes (List.replicate n (X.T e)) = n * (X.T e).size := by
          intro n
          induction n with
          | zero => simp [Ty.sizes]
          | succ n ihn => rw [List.replicate_succ, Ty.sizes, ihn, Nat.add_mul]; omega
        cases n with
        | zero =>
          have : cs = [] := by
            rw [hsz] at hlen
            simp [Ty.size, Ty.sizes] at hlen
            exact hlen
          subst this
          have hx0 : xs = [] := by simpa using hxs
          subst hx0
          exact ⟨.struct [], rfl, rfl, by simp only [Deep]; exact ⟨[], _, rfl, hx.1, by simp [All3]⟩⟩
        | succ n =>
          have hee : (X.T e).rd (rdN X m) = true := by simp only [Ty.rd, List.replicate_succ, Ty.rds, Bool.and_eq_true] at hr; exact hr.1
          obtain ⟨svs, g1, g2, g3⟩ := elems_deep ok (ih m) hee hxs hk (n + 1) 0 (by omega) (by rw [hlen, hsz, Ty.size, hss])
          refine ⟨.struct svs, by simpa [SV.cells] using g1, by simpa [SV.shape] using g2, ?_⟩
          simp only [Deep]
          exact ⟨svs, _, rfl, hx.1, by simpa using g3⟩
    | slice e =>
      rw [hT] at hty hsz hr
      have hre : rdN X m e = true := by simpa only [Ty.rd] using hr
      cases m with
      | zero => simp [rdN] at hre
      | succ m =>
        simp only [rdN] at hre
        have hse := cellsOf_eq ok (rd_data hre)
        rcases DataW.trod_slice (t := t) hty h with ⟨rfl, hx⟩ | ⟨a, len, cap, elems, rest, n, hn, rfl, hx, _, hl, hm, hel, hk, hsp, _⟩
        · simp at hx
          exact ⟨.slice ⟨none, 0, 0⟩, rfl, rfl, by unfold Deep; exact .inl ⟨rfl, hx.1⟩⟩
        · have hn' : fuel = n := by omega
          subst hn'
          obtain ⟨hrl, hrk⟩ := hsp rfl
          simp only [Prod.mk.injEq] at hx
          have each : ∀ i, i < cap → ∃ sv, sv.shape (X.T e) = true ∧ Cells w (some (a.add (i * (X.T e).size))) sv.cells ∧ ∃ d, ((elems ++ rest).map (·.1))[i]? = some d ∧ Deep X w fuel (X.T e) sv d := by
            intro i hi
            have hb : (w.cells? 0 (a.add (i * X.P.cellsOf e)) (X.P.cellsOf e)).bind (DataW.trod enc X.P w 0 (fun _ => true) true fuel e) = (elems ++ rest)[i]? := by
              by_cases hil : i < len
              · rw [hk i hil, List.getElem?_append_left (by omega)]
              · have := hrk (i - len) (by omega)
                rw [show len + (i - len) = i by omega] at this
                rw [this, List.getElem?_append_right (by omega), hel]
            have hlt : i < (elems ++ rest).length := by simp; omega
            rw [List.getElem?_eq_getElem hlt, Option.bind_eq_some_iff] at hb
            obtain ⟨cs', hcs, hy⟩ := hb
            obtain ⟨sv, e1, e2, e3⟩ := ih m e cs' _ _ hre hy
            refine ⟨sv, e2, ?_, _, by rw [List.getElem?_map, List.getElem?_eq_getElem hlt]; rfl, e3⟩
            rw [hse] at hcs
            obtain ⟨_, c2, c3⟩ := World.cells?_some hcs
            intro j hj
            rw [c3 j (by rw [← c2, e1]; exact hj), e1]
            simp [hj]
          have hds : ((elems ++ rest).map (·.1)).length = cap := by simp; omega
          let vs : List SV := (List.range cap).map fun i => if hi : i < cap then Classical.choose (each i hi) else .bool true
          refine ⟨.slice ⟨some a, len, cap⟩, rfl, rfl, ?_⟩
          simp only [Deep]
          refine .inr ⟨a, len, cap, vs, (elems ++ rest).map (·.1), rfl, ?_, hl, hm, by simp [vs], hds, ?_⟩
          · rw [hx.1, ← hel, ← (show (elems.map (·.1)).length = elems.length by simp), List.map_append, List.take_left, List.drop_left]
          · intro i sv d h1 h2
            have hi : i < cap := by
              have := (List.getElem?_eq_some_iff.1 h1).1
              simpa [vs] using this
            have hsv : sv = Classical.choose (each i hi) := by
              have : vs[i]? = some (Classical.choose (each i hi)) := by simp [vs, hi]
              rw [this] at h1
              simpa using h1.symm
            obtain ⟨k1, k2, d', k3, k4⟩ := Classical.choose_spec (each i hi)
            rw [k3] at h2
            obtain rfl : d' = d := by simpa using h2
            rw [hsv]
            exact ⟨k1, k2, k4⟩
    | ptr e => rw [hT] at hr; simp [Ty.rd] at hr
    | map => rw [hT] at hr; simp [Ty.rd] at hr
    | tuple ts => rw [hT] at hr; simp [Ty.rd] at hr
    | other => rw [hT] at hr; simp [Ty.rd] at hr
end
end Go.Vc
end

section
namespace Go.Vc
open Go.ChangeShapes Go.WideShapes Go.ChangeAt Go.RowKit
set_option linter.unusedVariables false
set_option linter.unusedSimpArgs false
set_option autoImplicit false

section
variable {H : Type} {X : Tab} (ok : TabOK X) {enc : TypeId × Value → H} {w : World}

def ArgsD (X : Tab) (w : World) : List Nat → List SV → List (DataW H) → Prop
  | [], [], [] => True
  | t :: ts, x :: xs, d :: ds => (∃ m, Deep X w m (X.T t) x d) ∧ x.shape (X.T t) = true ∧ ArgsD X w ts xs ds
  | _, _, _ => False

include ok in
theorem value_enc {t : Nat} {v : Value} {sv : SV} (hv : Value.okWide X.P w .any 0 t v ∨ ∃ b, Value.okWide X.P w .any b t v) (hs : sv.shape (X.T t) = true) (hr : isData (X.T t) = true) (hc : v.cells.toList = sv.cells) (hnp : ∀ e, X.T t ≠ .ptr e) (hnm : X.T t ≠ .map) : v = sv.enc := by
  obtain ⟨b, hv⟩ : ∃ b, Value.okWide X.P w .any b t v := by rcases hv with h | h; exact ⟨0, h⟩; exact h
  have hty := ok.ty t
  cases hT : X.T t with
  | int k =>
    rw [hT] at hty hs
    obtain ⟨n, rfl⟩ := okWide_int (t := t) hty hv
    rw [enc_scalar hs rfl] at hc
    simpa [Value.cells] using hc
  | bool =>
    rw [hT] at hty hs
    obtain ⟨n, rfl⟩ := okWide_bool (t := t) hty hv
    rw [enc_scalar hs rfl] at hc
    simpa [Value.cells] using hc
  | str =>
    rw [hT] at hty hs
    obtain ⟨n, rfl⟩ := okWide_string (t := t) hty hv
    rw [enc_scalar hs rfl] at hc
    simpa [Value.cells] using hc
  | slice e =>
    rw [hT] at hty hs
    obtain ⟨a, l, c, rfl⟩ := okWide_slice (t := t) hty hv
    rw [enc_scalar hs rfl] at hc
    simpa [Value.cells] using hc
  | arr k n =>
    rw [hT] at hty hs
    obtain ⟨e, hu, _⟩ := hty
    unfold Value.okWide at hv
    rw [hu] at hv
    obtain ⟨cs, rfl, _⟩ := hv
    rw [enc_agg hs rfl]
    simp only [Value.cells] at hc
    rw [← hc]
  | struct bb ts =>
    rw [hT] at hty hs
    have hu : ∃ cs, v = .agg cs := by
      cases bb with
      | false =>
        obtain ⟨fs, hu, _⟩ := hty
        unfold Value.okWide at hv
        rw [hu] at hv
        obtain ⟨cs, h, _⟩ := hv
        exact ⟨cs, h⟩
      | true =>
        obtain ⟨n, e, hu, _⟩ := hty
        unfold Value.okWide at hv
        rw [hu] at hv
        obtain ⟨cs, h, _⟩ := hv
        exact ⟨cs, h⟩
    obtain ⟨cs, rfl⟩ := hu
    rw [enc_agg hs rfl]
    simp only [Value.cells] at hc
    rw [← hc]
  | ptr e => exact absurd hT (hnp e)
  | map => exact absurd hT hnm
  | tuple ts => rw [hT] at hr; cases hr
  | other => rw [hT] at hr; cases hr

theorem rd_noptr {f : Nat → Bool} {t : Ty} (h : t.rd f = true) : (∀ e, t ≠ .ptr e) ∧ t ≠ .map := by cases t <;> simp [Ty.rd] at h <;> simp

include ok in
theorem args_deep {m : Nat} : ∀ {ts : List TypeId} {vs : List Value} {ds : List (DataW H)} {ps : List MemPlace}, DataW.TrodAll enc X.P w 0 (fun _ => true) true ts vs ds ps →
    (∀ (j : Nat) t v, ts[j]? = some t → vs[j]? = some v → ∃ b, Value.okWide X.P w .any b t v) → (ts.all fun t => (X.T t).rd (rdN X m)) = true →
    ∃ svs, vs = SV.encL svs ∧ ArgsD X w ts svs ds
  | [], vs, ds, ps, h, _, _ => by
    obtain ⟨rfl, rfl, rfl⟩ := trodAll_nil h
    exact ⟨[], rfl, trivial⟩
  | t :: ts, vs, ds, ps, h, hv, hr => by
    obtain ⟨v, vs', d, ds', p, q, rfl, rfl, rfl, ⟨fuel, hd⟩, hrest⟩ := trodAll_cons h
    simp only [List.all_cons, Bool.and_eq_true] at hr
    obtain ⟨sv, e1, e2, e3⟩ := deep_of_trod ok fuel m t _ _ _ hr.1 hd
    obtain ⟨svs, g1, g2⟩ := args_deep hrest (fun j t v h1 h2 => hv (j + 1) t v (by simpa using h1) (by simpa using h2)) hr.2
    have hve := value_enc ok (.inr (hv 0 t v rfl rfl)) e2 (rd_data hr.1) e1 (rd_noptr hr.1).1 (rd_noptr hr.1).2
    exact ⟨sv :: svs, by rw [hve, g1]; rfl, ⟨fuel, e3⟩, e2, g2⟩

/-- the arguments read as they did -/
theorem args_same {P : Program} (hl : laidOutB P = true) {W W' : World} (hb : Below W.heap.size W W') : ∀ {ts : List TypeId} {vs : List Value} {ds : List (DataW H)} {ps : List MemPlace},
    DataW.TrodAll enc P W 0 (fun _ => true) true ts vs ds ps → (ts.all fun t => P.readableRec t && decide (t < P.types.size)) = true →
    DataW.TrodAll enc P W' 0 (fun b => decide (b < W.heap.size)) true ts vs ds ps
  | [], vs, ds, ps, h, _ => by
    obtain ⟨rfl, rfl, rfl⟩ := trodAll_nil h
    exact trodAll_mk0
  | t :: ts, vs, ds, ps, h, hr => by
    obtain ⟨v, vs', d, ds', p, q, rfl, rfl, rfl, hd, hrest⟩ := trodAll_cons h
    simp only [List.all_cons, Bool.and_eq_true, decide_eq_true_eq] at hr
    have hlt : ∀ x ∈ p, x.block < W.heap.size := by obtain ⟨m, hm⟩ := hd; exact DataW.trod_lt m _ _ _ hm
    exact ⟨p, q, Below.trod hl hr.1.1 hr.1.2 hd hb hlt, args_same hl hb hrest hr.2, rfl⟩

include ok in
/-- a law's call, out of its contract -/
theorem law_post {fn : Func} {f : Nat} {spec : ChangeSpec} {ts : List TypeId} {tb : TypeId} {m : Nat} (hl : laidOutB X.P = true) (hts : fn.params.toList = ts) (hres : fn.resultTypes = #[tb]) (htb : X.P.underlying tb = some .bool)
    (hvars : spec.vars = []) (hspec : ∀ ds : List (DataW H), ds.length = ts.length → spec.fn H ds = { results := [.lit (.bool true)], args := ds })
    (hr : (ts.all fun t => (X.T t).rd (rdN X m)) = true) (hr2 : (ts.all fun t => X.P.readableRec t && decide (t < X.P.types.size)) = true)
    {W : World} {args : Array Value} {ds gs : List (DataW H)} {before : List MemPlace} {base : Nat}
    (hval : ∀ (j : Nat) t v, fn.params[j]? = some t → args[j]? = some v → Value.okWide X.P W .any base t v)
    (hW : DataW.Whole enc X.P fn.params.toList spec.vars false W args.toList ds gs before)
    (walk : ∀ svs, ArgsD X W ts svs ds → Ret X.P f svs W fun r w1 => r = .bool true ∧ Upd [] [] W w1) :
    Calls X.P f args W fun e W' => ∃ v, e = .returned v ∧ spec.post enc X.P fn false true false false W args v W' := by
  have hW' := hW
  obtain ⟨p, q, hA, hV, rfl, hfz, hnd⟩ := hW
  rw [hvars] at hV
  obtain ⟨rfl, rfl⟩ := trodVars_none hV
  rw [hts] at hA
  obtain ⟨svs, h1, h2⟩ := args_deep ok hA (fun j t v g1 g2 => ⟨base, hval j t v (by simpa [← hts] using g1) (by simpa using g2)⟩) hr
  have hargs : args = (SV.encL svs).toArray := by cases args; simp_all
  have hlen : ds.length = ts.length := by
    have : ∀ (ts : List Nat) (svs : List SV) (ds : List (DataW H)), ArgsD X W ts svs ds → ds.length = ts.length := by
      intro ts
      induction ts with
      | nil => intro svs ds h; cases svs <;> cases ds <;> simp [ArgsD] at h <;> rfl
      | cons t ts ih => intro svs ds h; cases svs <;> cases ds <;> simp [ArgsD] at h; simp [ih _ _ h.2.2]
    exact this _ _ _ h2
  have hw := walk svs h2
  unfold Ret at hw
  rw [← hargs] at hw
  refine hw.mono fun e W' ⟨r, he, hr', hu⟩ => ?_
  subst hr'
  subst he
  have hb := hu.below (by simp)
  have hsp := hspec ds hlen
  refine ⟨_, rfl, _, _, _, [], p, [], hW', ?_, ?_, ?_, hb.frame _, fun h => by cases h⟩
  · rw [hres, List.append_nil, hsp]
    exact trodAll_mk1 (shut_bool htb _)
  · rw [List.append_nil, hsp, hts]
    exact args_same hl hb hA hr2
  · rw [List.append_nil, hsp, hvars]
    rfl
end

/-! ### what is known of arguments -/
section
variable {H : Type} {X : Tab} {w : World}
theorem argsD_nil {svs : List SV} {ds : List (DataW H)} (h : ArgsD X w [] svs ds) : svs = [] ∧ ds = [] := by
  cases svs <;> cases ds <;> simp [ArgsD] at h
  exact ⟨rfl, rfl⟩
theorem argsD_cons {t : Nat} {ts : List Nat} {svs : List SV} {ds : List (DataW H)} (h : ArgsD X w (t :: ts) svs ds) :
    ∃ x xs d ds' m, svs = x :: xs ∧ ds = d :: ds' ∧ Deep X w m (X.T t) x d ∧ ArgsD X w ts xs ds' := by
  cases svs <;> cases ds <;> simp [ArgsD] at h
  obtain ⟨⟨m, h1⟩, h2, h3⟩ := h
  exact ⟨_, _, _, _, m, rfl, rfl, h1, h3⟩
theorem wf_i64 {n : Int} (h : (Lit.int .i64 n).wf = true) : -9223372036854775808 ≤ n ∧ n ≤ 9223372036854775807 := by
  simpa [Lit.wf, IntKind.min, IntKind.max, IntKind.signed, IntKind.bits] using h
theorem wf_u8 {n : Int} (h : (Lit.int .u8 n).wf = true) : 0 ≤ n ∧ n < 256 := by
  have : 0 ≤ n ∧ n ≤ 255 := by simpa [Lit.wf, IntKind.min, IntKind.max, IntKind.signed, IntKind.bits] using h
  omega
/-- bytes -/
theorem deep_bytes {m t e : Nat} {x : SV} {d : DataW H} (hT : X.T t = .slice e) (hE : X.T e = .int .u8) (h : Deep X w m (X.T t) x d) :
    ∃ (s : Sl) (l : List Int), x = .slice s ∧ SeesB w s l ∧ Byt l ∧ s.len ≤ s.cap ∧ s.cap ≤ maxLen ∧ (d = .nil ∧ s = ⟨none, 0, 0⟩ ∨ ∃ els sp, d = .slice els sp ∧ els.length = l.length ∧ els.length + sp.length = s.cap) := by
  rw [hT] at h
  cases m with
  | zero => exact h.elim
  | succ m =>
    simp only [Deep] at h
    rcases h with ⟨rfl, rfl⟩ | ⟨a, len, cap, vs, ds, rfl, rfl, hl, hm, hv, hd, h⟩
    · exact ⟨⟨none, 0, 0⟩, [], rfl, Sees.nil _ _ _ _, Byt.nil, Nat.le_refl _, by simp [maxLen], .inl ⟨rfl, rfl⟩⟩
    · rw [hE] at h
      let num : SV → Int := fun v => match v with | .int _ n => n | _ => 0
      have each : ∀ i (hi : i < cap), w.cell? (a.add i) = some (.int .u8 (num (vs[i]'(by omega)))) ∧ 0 ≤ num (vs[i]'(by omega)) ∧ num (vs[i]'(by omega)) < 256 := by
        intro i hi
        obtain ⟨h1, h2, h3⟩ := h i _ _ (List.getElem?_eq_getElem (by omega)) (List.getElem?_eq_getElem (by omega))
        cases m with
        | zero => exact h3.elim
        | succ m =>
          simp only [Deep] at h3
          obtain ⟨n, g1, _, g3⟩ := h3
          have := h2 0 (by rw [g1]; simp [SV.cells])
          rw [g1]
          simp [g1, SV.cells, Ty.size] at this
          exact ⟨this, wf_u8 g3⟩
      refine ⟨⟨some a, len, cap⟩, (vs.take len).map num, rfl, ⟨by simp; omega, ?_⟩, ?_, hl, hm, .inr ⟨_, _, rfl, by simp; omega, by simp; omega⟩⟩
      · intro i hi
        have hc : cU8.cells ((vs.take len).map num) = ((vs.take len).map num).map fun n => Value.int .u8 n := Cod.cells_map1 (fun _ => rfl) _
        simp only [hc, List.getElem_map, List.getElem_take]
        rw [hc] at hi
        simp at hi
        exact (each i (by omega)).1
      · intro y hy
        obtain ⟨v, hv', rfl⟩ := List.mem_map.1 hy
        obtain ⟨i, hi, rfl⟩ := List.getElem_of_mem hv'
        simp at hi
        simp only [List.getElem_take]
        exact (each i (by omega)).2
end
end Go.Vc
end

section
namespace Go.Vc
set_option linter.unusedVariables false
set_option linter.unusedSimpArgs false
set_option autoImplicit false
section
variable {H : Type} {X : Tab} {w : World}
theorem all3_nil {R : Ty → SV → DataW H → Prop} {xs : List SV} {ds : List (DataW H)} (h : All3 R [] xs ds) : xs = [] ∧ ds = [] := by
  cases xs <;> cases ds <;> simp [All3] at h
  exact ⟨rfl, rfl⟩
theorem all3_cons {R : Ty → SV → DataW H → Prop} {t : Ty} {ts : List Ty} {xs : List SV} {ds : List (DataW H)} (h : All3 R (t :: ts) xs ds) :
    ∃ x xs' d ds', xs = x :: xs' ∧ ds = d :: ds' ∧ R t x d ∧ All3 R ts xs' ds' := by
  cases xs <;> cases ds <;> simp [All3] at h
  exact ⟨_, _, _, _, rfl, rfl, h.1, h.2⟩
theorem dp_struct {m : Nat} {b : Bool} {ts : List Ty} {x : SV} {d : DataW H} (h : Deep X w m (.struct b ts) x d) : ∃ fs l m', x = .struct fs ∧ d = .agg l ∧ All3 (Deep X w m') ts fs l := by
  cases m with
  | zero => exact h.elim
  | succ m => simp only [Deep] at h; obtain ⟨fs, l, h1, h2, h3⟩ := h; exact ⟨fs, l, m, h1, h2, h3⟩
theorem dp_int {m : Nat} {k : IntKind} {x : SV} {d : DataW H} (h : Deep X w m (.int k) x d) : ∃ n, x = .int k n ∧ d = .lit (.int k n) ∧ (Lit.int k n).wf = true := by
  cases m with
  | zero => exact h.elim
  | succ m => simpa only [Deep] using h
theorem dp_bool {m : Nat} {x : SV} {d : DataW H} (h : Deep X w m .bool x d) : ∃ n, x = .bool n ∧ d = .lit (.bool n) := by
  cases m with
  | zero => exact h.elim
  | succ m => simpa only [Deep] using h
theorem dp_arr8 {m n : Nat} {x : SV} {d : DataW H} (h : Deep X w m (.arr .u8 n) x d) : ∃ f l, x = .arr .u8 n f ∧ d = .agg l ∧ l.length = n ∧ ∀ i, i < n → 0 ≤ f i ∧ f i < 256 := by
  cases m with
  | zero => exact h.elim
  | succ m =>
    simp only [Deep] at h
    obtain ⟨f, l, h1, h2, h3, h4⟩ := h
    exact ⟨f, l, h1, h2, h3, fun i hi => wf_u8 (h4 i hi).2⟩
/-- an address -/
theorem dp_ip {m : Nat} {x : SV} {d : DataW H} (h : Deep X w m (.struct false [.int .i64, .arr .u8 16]) x d) :
    ∃ (v : Int) (a : Nat → Int), x = .struct [.int .i64 v, .arr .u8 16 a] ∧ (-9223372036854775808 ≤ v ∧ v ≤ 9223372036854775807) ∧ ∀ i, i < 16 → 0 ≤ a i ∧ a i < 256 := by
  obtain ⟨fs, l, m', rfl, rfl, q⟩ := dp_struct h
  obtain ⟨x, _, _, _, rfl, rfl, h1, q⟩ := all3_cons q
  obtain ⟨y, _, _, _, rfl, rfl, h2, q⟩ := all3_cons q
  obtain ⟨rfl, rfl⟩ := all3_nil q
  obtain ⟨v, rfl, _, hw⟩ := dp_int h1
  obtain ⟨a, _, rfl, _, _, ha⟩ := dp_arr8 h2
  exact ⟨v, a, rfl, wf_i64 hw, ha⟩
end
end Go.Vc
end

section
namespace Go.Vc
set_option linter.unusedVariables false
set_option linter.unusedSimpArgs false
set_option autoImplicit false

/-! ### options: a kind and bytes -/
structure Opt where
  kind : Int
  data : List Int
  deriving DecidableEq
def cOpt : Cod (Int × Sl) := ⟨2, fun p => [.int .i64 p.1, p.2.val], fun _ => rfl, by simp [Value.oneCell', Sl.val]⟩
/-- a slice of options -/
structure Opts (w : World) (s : Sl) (l : List Opt) (os : List (Int × Sl)) : Prop where
  row : Sees cOpt w s os
  len : os.length = l.length
  kind : ∀ i (h : i < l.length), (os[i]'(by rw [len]; exact h)).1 = l[i].kind
  each : ∀ i (h : i < l.length), SeesB w (os[i]'(by rw [len]; exact h)).2 l[i].data

section
variable {w w1 : World} {s : Sl} {l : List Opt} {os : List (Int × Sl)}
theorem Opts.slen (h : Opts w s l os) : s.len = l.length := by rw [h.row.len, h.len]
theorem Opts.nil (w : World) (p : Option Addr) (cap : Nat) : Opts w ⟨p, 0, cap⟩ [] [] := ⟨Sees.nil _ _ _ _, rfl, by simp, by simp⟩
theorem Opts.upd {m n : List Nat} (h : Opts w s l os) (u : Upd m n w w1) (h1 : ∀ b ∈ s.blk, b ∉ m) (h2 : ∀ x ∈ os, ∀ b ∈ x.2.blk, b ∉ m) : Opts w1 s l os where
  row := h.row.upd u h1
  len := h.len
  kind := h.kind
  each i hi := (h.each i hi).upd u (h2 _ (List.getElem_mem _))
theorem Opts.old {n : List Nat} (h : Opts w s l os) (u : Upd [] n w w1) : Opts w1 s l os := h.upd u (by simp) (by simp)
/-- an option's cells -/
theorem Opts.get (h : Opts w s l os) (i : Nat) (hi : i < l.length) :
    w.cell? (s.at 2 i) = some (.int .i64 (l[i]).kind) ∧ w.cell? ((s.at 2 i).add 1) = some ((os[i]'(by rw [h.len]; exact hi)).2).val ∧ SeesB w (os[i]'(by rw [h.len]; exact hi)).2 l[i].data ∧ s.ptr.isSome = true := by
  have hi' : i < os.length := by rw [h.len]; exact hi
  have he := h.row.elem hi'
  have h1 := he 0 (by simp [cOpt])
  have h2 := he 1 (by simp [cOpt])
  rw [add_zero] at h1
  rw [show cOpt.sz = 2 from rfl] at h1 h2
  refine ⟨?_, h2, h.each i hi, h.row.isSome (by decide) (by omega)⟩
  rw [h1]
  simp [cOpt, h.kind i hi]
theorem needO {X : Prop} (h : Opts w s l os) {i : Int} (h0 : 0 ≤ i) (h1 : i < l.length) (x : X) : Need (decide (0 ≤ i) && decide (i < (s.len : Int)) && s.ptr.isSome) X :=
  needIx h0 (by rw [h.slen]; exact h1) (h.get i.toNat (by omega)).2.2.2 x
/-- one more option -/
theorem Opts.snoc {r : Sl} {o : Opt} {x : Sl} (h : Opts w s l os) (hr : Sees cOpt w1 r (os ++ [(o.kind, x)])) (hx : SeesB w1 x o.data) (he : ∀ i (h2 : i < l.length), SeesB w1 (os[i]'(by rw [h.len]; exact h2)).2 l[i].data) : Opts w1 r (l ++ [o]) (os ++ [(o.kind, x)]) where
  row := hr
  len := by simp [h.len]
  kind i hi := by
    by_cases e : i < l.length
    · have hl := h.len
      rw [List.getElem_append_left (by omega), List.getElem_append_left (by omega)]; exact h.kind i e
    · have : i = l.length := by simp at hi; omega
      subst this
      have hl := h.len
      rw [List.getElem_append_right (by omega), List.getElem_append_right (by omega)]
      simp [h.len]
  each i hi := by
    by_cases e : i < l.length
    · have hl := h.len
      rw [List.getElem_append_left (by omega), List.getElem_append_left (by omega)]; exact he i e
    · have : i = l.length := by simp at hi; omega
      subst this
      have hl := h.len
      rw [List.getElem_append_right (by omega), List.getElem_append_right (by omega)]
      simp [h.len]
      exact hx
end

/-! ### options read -/
/-- where the options stand: each one's place and end. ok: may kind and length be? -/
def opos (ok : Int → Int → Bool) (l : List Int) : Nat → Nat → List (Nat × Nat) → Option (List (Nat × Nat))
  | 0, _, _ => none
  | f + 1, t, acc =>
    if l.length ≤ t then some acc
    else if bt l (t : Int) = 0 then some acc
    else if bt l (t : Int) = 1 then opos ok l f (t + 1) acc
    else if t + 1 = l.length then none
    else if ok (bt l (t : Int)) (bt l ((t + 1 : Nat) : Int)) = false then none
    else if l.length < t + (bt l ((t + 1 : Nat) : Int)).toNat then none
    else opos ok l f (t + (bt l ((t + 1 : Nat) : Int)).toNat) (acc ++ [(t, t + (bt l ((t + 1 : Nat) : Int)).toNat)])
def optsP (ok : Int → Int → Bool) (l : List Int) : Option (List (Nat × Nat)) := if 40 < l.length then none else opos ok l (l.length + 1) 0 []
def optAt (l : List Int) (p : Nat × Nat) : Opt := ⟨bt l (p.1 : Int), (l.take p.2).drop (p.1 + 2)⟩
/-- the slices of the options' data, windows of b -/
def osAt (b : Sl) (l : List Int) (p : Nat × Nat) : Int × Sl := (bt l (p.1 : Int), b.sub 1 (p.1 + 2) p.2 p.2)
/-- may these be the places of options? -/
def Places (l : List Int) (ps : List (Nat × Nat)) : Prop := ∀ p ∈ ps, p.1 + 2 ≤ p.2 ∧ p.2 ≤ l.length ∧ bt l ((p.1 + 1 : Nat) : Int) = ((p.2 - p.1 : Nat) : Int) ∧ bt l (p.1 : Int) ≠ 0 ∧ bt l (p.1 : Int) ≠ 1
theorem opos_places {ok : Int → Int → Bool} (hok : ∀ k n, ok k n = true → 2 ≤ n) {l : List Int} (hb : Byt l) : ∀ (f t : Nat) (acc ps : List (Nat × Nat)), Places l acc → opos ok l f t acc = some ps → Places l ps
  | 0, t, acc, ps, ha, h => by simp [opos] at h
  | f + 1, t, acc, ps, ha, h => by
    unfold opos at h
    split at h
    · injection h with h; subst h; exact ha
    split at h
    · injection h with h; subst h; exact ha
    split at h
    · exact opos_places hok hb f _ _ _ ha h
    split at h
    · cases h
    split at h
    · cases h
    rename_i h5
    split at h
    · cases h
    rename_i h6
    have h7 := hok (bt l (t : Int)) (bt l ((t + 1 : Nat) : Int)) (by simpa using h5)
    refine opos_places hok hb f _ _ _ (fun p hp => ?_) h
    rcases List.mem_append.1 hp with hp | hp
    · exact ha p hp
    · rw [List.mem_singleton] at hp
      subst hp
      refine ⟨?_, ?_, ?_, ?_, ?_⟩
      · show t + 2 ≤ t + _
        omega
      · show t + _ ≤ _
        omega
      · show bt l ((t + 1 : Nat) : Int) = _
        rw [Nat.add_sub_cancel_left]; omega
      · assumption
      · assumption
theorem optsP_places {ok : Int → Int → Bool} (hok : ∀ k n, ok k n = true → 2 ≤ n) {l : List Int} (hb : Byt l) {ps : List (Nat × Nat)} (h : optsP ok l = some ps) : Places l ps ∧ l.length ≤ 40 := by
  unfold optsP at h
  split at h
  · cases h
  · exact ⟨opos_places hok hb _ _ _ _ (by simp [Places]) h, by omega⟩
/-- the options out of places: windows -/
theorem opts_win {w : World} {b s : Sl} {l : List Int} {ps : List (Nat × Nat)} (hs : Sees cOpt w s (ps.map (osAt b l))) (hb : SeesB w b l) (hp : Places l ps) : Opts w s (ps.map (optAt l)) (ps.map (osAt b l)) where
  row := hs
  len := by simp
  kind i hi := by simp [osAt, optAt]
  each i hi := by
    simp only [List.getElem_map, osAt, optAt]
    have := hp _ (List.getElem_mem (by simpa using hi : i < ps.length))
    exact hb.subB (by omega) this.2.1 (Nat.le_refl _)

/-! ### options written -/
def optB (o : Opt) : List Int := [o.kind % 256, ((2 + o.data.length : Nat) : Int) % 256] ++ o.data
def pad4 (b : List Int) : List Int := b ++ List.replicate ((4 - b.length % 4) % 4) 0
def putO (l : List Opt) : List Int := pad4 (l.flatMap optB)
def okO (o : Opt) : Prop := 2 ≤ o.kind ∧ o.kind ≤ 255 ∧ o.data.length ≤ 38
instance (o : Opt) : Decidable (okO o) := by unfold okO; infer_instance
def putOk (l : List Opt) : Prop := (∀ o ∈ l, okO o) ∧ (l.flatMap optB).length ≤ 40
instance (l : List Opt) : Decidable (putOk l) := by unfold putOk; infer_instance
theorem optB_len (o : Opt) : (optB o).length = 2 + o.data.length := by simp [optB]; omega
theorem pad4_len (b : List Int) : (pad4 b).length % 4 = 0 ∧ b.length ≤ (pad4 b).length ∧ (pad4 b).length < b.length + 4 := by
  simp [pad4]; omega
theorem putO_len {l : List Opt} (h : putOk l) : (putO l).length ≤ 40 ∧ (putO l).length % 4 = 0 := by
  have := pad4_len (l.flatMap optB)
  have := h.2
  unfold putO
  omega
theorem optB_byt {o : Opt} (h : Byt o.data) : Byt (optB o) := by
  unfold optB
  refine Byt.app ?_ h
  simp [Byt]; omega
theorem flatMap_byt {l : List Opt} (h : ∀ o ∈ l, Byt o.data) : Byt (l.flatMap optB) := fun x hx => by
  obtain ⟨o, ho, hx⟩ := List.mem_flatMap.1 hx
  exact optB_byt (h o ho) x hx
theorem putO_byt {l : List Opt} (h : ∀ o ∈ l, Byt o.data) : Byt (putO l) := (flatMap_byt h).app (fun x hx => by have := List.eq_of_mem_replicate hx; omega)
end Go.Vc
end

section
namespace Go.Vc
set_option linter.unusedVariables false
set_option linter.unusedSimpArgs false
set_option autoImplicit false

theorem bt_app_r (a b : List Int) (i : Nat) : bt (a ++ b) ((a.length + i : Nat) : Int) = bt b (i : Int) := by
  simp only [bt, Int.toNat_natCast, List.getD_eq_getElem?_getD]
  rw [List.getElem?_append_right (by omega), Nat.add_sub_cancel_left]
theorem bt_zeros {z : List Int} (hz : ∀ x ∈ z, x = 0) (i : Int) : bt z i = 0 := by
  simp only [bt, List.getD_eq_getElem?_getD]
  by_cases h : i.toNat < z.length
  · rw [List.getElem?_eq_getElem h]; exact hz _ (List.getElem_mem h)
  · rw [List.getElem?_eq_none (by omega)]; rfl

def optPs : Nat → List Opt → List (Nat × Nat)
  | _, [] => []
  | t, o :: r => (t, t + (2 + o.data.length)) :: optPs (t + (2 + o.data.length)) r
theorem opos_put {ok : Int → Int → Bool} {z : List Int} (hz : ∀ x ∈ z, x = 0) : ∀ (rest : List Opt) (pre : List Int) (f : Nat) (acc : List (Nat × Nat)), rest.length + 1 ≤ f →
    (∀ o ∈ rest, okO o ∧ ok o.kind ((2 + o.data.length : Nat) : Int) = true) → opos ok (pre ++ (rest.flatMap optB ++ z)) f pre.length acc = some (acc ++ optPs pre.length rest)
  | [], pre, f, acc, hf, _ => by
    obtain ⟨f, rfl⟩ : ∃ g, f = g + 1 := ⟨f - 1, by omega⟩
    unfold opos
    by_cases h : (pre ++ (([] : List Opt).flatMap optB ++ z)).length ≤ pre.length
    · rw [if_pos h]; simp [optPs]
    · rw [if_neg h, if_pos]
      · simp [optPs]
      · have := bt_app_r pre (([] : List Opt).flatMap optB ++ z) 0
        rw [Nat.add_zero] at this
        rw [this]
        exact bt_zeros (by simpa using hz) _
  | o :: r, pre, f, acc, hf, ho => by
    obtain ⟨f, rfl⟩ : ∃ g, f = g + 1 := ⟨f - 1, by omega⟩
    have hf' : r.length + 1 ≤ f := by simp at hf; omega
    obtain ⟨⟨h1, h2, h3⟩, hk⟩ := ho o (by simp)
    have e0 : (o :: r).flatMap optB ++ z = o.kind % 256 :: (((2 + o.data.length : Nat) : Int) % 256) :: (o.data ++ (r.flatMap optB ++ z)) := by simp [optB]
    have b0 : bt (pre ++ ((o :: r).flatMap optB ++ z)) (pre.length : Int) = o.kind := by
      have := bt_app_r pre ((o :: r).flatMap optB ++ z) 0
      rw [Nat.add_zero] at this
      rw [this, e0]
      simp [bt]
      omega
    have b1 : bt (pre ++ ((o :: r).flatMap optB ++ z)) ((pre.length + 1 : Nat) : Int) = ((2 + o.data.length : Nat) : Int) := by
      rw [bt_app_r, e0]
      simp [bt]
      omega
    have ih := opos_put hz r (pre ++ optB o) f (acc ++ [(pre.length, pre.length + (2 + o.data.length))]) hf' (fun x hx => ho x (by simp [hx]))
    have e1 : pre ++ optB o ++ (r.flatMap optB ++ z) = pre ++ ((o :: r).flatMap optB ++ z) := by simp
    have e2 : (pre ++ optB o).length = pre.length + (2 + o.data.length) := by rw [List.length_append, optB_len]
    rw [e1, e2] at ih
    have hlen : (pre ++ ((o :: r).flatMap optB ++ z)).length = pre.length + (2 + o.data.length) + (r.flatMap optB ++ z).length := by rw [← e1, List.length_append, e2]
    unfold opos
    rw [b0, b1, if_neg (by omega), if_neg (by omega), if_neg (by omega), if_neg (by omega), hk, if_neg (by simp), Int.toNat_natCast, if_neg (by omega), ih]
    simp [optPs]
theorem optAt_put (pre tail : List Int) (o : Opt) (h : okO o) : optAt (pre ++ (optB o ++ tail)) (pre.length, pre.length + (2 + o.data.length)) = o := by
  obtain ⟨h1, h2, h3⟩ := h
  have b0 : bt (pre ++ (optB o ++ tail)) (pre.length : Int) = o.kind := by
    have := bt_app_r pre (optB o ++ tail) 0
    rw [Nat.add_zero] at this
    rw [this]
    simp [optB, bt]
    omega
  have e : ((pre ++ (optB o ++ tail)).take (pre.length + (2 + o.data.length))).drop (pre.length + 2) = o.data := by
    have e1 : pre ++ (optB o ++ tail) = (pre ++ [o.kind % 256, ((2 + o.data.length : Nat) : Int) % 256]) ++ o.data ++ tail := by simp [optB]
    have e2 : pre.length + (2 + o.data.length) = ((pre ++ [o.kind % 256, ((2 + o.data.length : Nat) : Int) % 256]) ++ o.data).length := by simp; omega
    have e3 : pre.length + 2 = (pre ++ [o.kind % 256, ((2 + o.data.length : Nat) : Int) % 256]).length := by simp
    rw [e1, e2, List.take_left, e3, List.drop_left]
  unfold optAt
  rw [b0, e]
theorem optPs_map (z : List Int) : ∀ (rest : List Opt) (pre : List Int), (∀ o ∈ rest, okO o) → (optPs pre.length rest).map (optAt (pre ++ (rest.flatMap optB ++ z))) = rest
  | [], _, _ => rfl
  | o :: r, pre, h => by
    have ih := optPs_map z r (pre ++ optB o) (fun x hx => h x (by simp [hx]))
    have e1 : pre ++ optB o ++ (r.flatMap optB ++ z) = pre ++ (optB o ++ (r.flatMap optB ++ z)) := by simp
    have e2 : (pre ++ optB o).length = pre.length + (2 + o.data.length) := by rw [List.length_append, optB_len]
    rw [e1, e2] at ih
    simp only [optPs, List.map_cons, List.flatMap_cons, List.append_assoc]
    rw [optAt_put _ _ _ (h o (by simp)), ih]
theorem flat_ge (l : List Opt) : l.length ≤ (l.flatMap optB).length := by
  induction l with
  | nil => simp
  | cons o r ih => simp only [List.flatMap_cons, List.length_append, optB_len, List.length_cons]; omega
/-- what is written is read as it was -/
theorem optsP_put {ok : Int → Int → Bool} {l : List Opt} (h : putOk l) (hk : ∀ o ∈ l, ok o.kind ((2 + o.data.length : Nat) : Int) = true) : ∃ ps, optsP ok (putO l) = some ps ∧ ps.map (optAt (putO l)) = l := by
  have hl := putO_len h
  refine ⟨optPs 0 l, ?_, ?_⟩
  · unfold optsP
    rw [if_neg (by omega)]
    have := opos_put (ok := ok) (z := List.replicate ((4 - (l.flatMap optB).length % 4) % 4) 0) (fun x hx => List.eq_of_mem_replicate hx) l [] ((putO l).length + 1) [] (by
      have := flat_ge l
      have := (pad4_len (l.flatMap optB)).2.1
      unfold putO
      omega) (fun o ho => ⟨h.1 o ho, hk o ho⟩)
    simpa [putO, pad4] using this
  · have := optPs_map (List.replicate ((4 - (l.flatMap optB).length % 4) % 4) 0) l [] h.1
    simpa [putO, pad4] using this

end Go.Vc
end

section
namespace Go.Vc
set_option autoImplicit false
set_option linter.unusedVariables false

/-- a number folded -/
def fd (n : Int) : Int := if n = 0 then 0 else (n - 1) % 65535 + 1
theorem fd_range {n : Int} (h : 0 ≤ n) : 0 ≤ fd n ∧ fd n ≤ 65535 := by unfold fd; split <;> omega
theorem fd_id {n : Int} (h : 0 ≤ n) (h1 : n ≤ 65535) : fd n = n := by unfold fd; split <;> omega
theorem fd_step {n : Int} (h : 65535 < n) : fd (n % 65536 + n / 65536) = fd n := by unfold fd; split <;> split <;> omega
theorem fd_add {a b : Int} (ha : 0 ≤ a) (hb : 0 ≤ b) : fd (a + fd b) = fd (a + b) := by unfold fd; repeat' split <;> omega
theorem fd_add' {a b : Int} (ha : 0 ≤ a) (hb : 0 ≤ b) : fd (fd a + b) = fd (a + b) := by rw [Int.add_comm, fd_add hb ha, Int.add_comm]
theorem fd_most {a : Int} (ha : 0 ≤ a) : fd a = 65535 ↔ a ≠ 0 ∧ a % 65535 = 0 := by unfold fd; split <;> omega
theorem fd_zero {a : Int} (ha : 0 ≤ a) : fd a = 0 ↔ a = 0 := by unfold fd; split <;> omega

/-- the weighted sum of bytes; h: the first one is a word's higher half -/
def ws : Bool → List Int → Int
  | _, [] => 0
  | h, b :: r => (if h then b * 256 else b) + ws (!h) r
def par (h : Bool) (n : Nat) : Bool := if n % 2 = 0 then h else !h
theorem par_succ (h : Bool) (n : Nat) : par (!h) n = par h (n + 1) := by
  unfold par
  cases h <;> (split <;> split <;> first | rfl | omega)
theorem par_par (h : Bool) (n m : Nat) : par (par h n) m = par h (n + m) := by
  simp only [par]
  cases h <;> by_cases h1 : n % 2 = 0 <;> by_cases h2 : m % 2 = 0 <;> by_cases h3 : (n + m) % 2 = 0 <;> simp [h1, h2, h3] <;> omega
theorem ws_app : ∀ (a b : List Int) (h : Bool), ws h (a ++ b) = ws h a + ws (par h a.length) b
  | [], b, h => by simp [ws, par]
  | x :: a, b, h => by
    simp only [List.cons_append, ws, ws_app a b (!h), List.length_cons, par_succ]
    omega
theorem ws_snoc (a : List Int) (x : Int) (h : Bool) : ws h (a ++ [x]) = ws h a + (if par h a.length then x * 256 else x) := by
  rw [ws_app]; simp [ws]
theorem ws_nonneg : ∀ {l : List Int} (h : Bool), (∀ x ∈ l, 0 ≤ x ∧ x < 256) → 0 ≤ ws h l ∧ ws h l ≤ 65280 * l.length
  | [], h, _ => by simp [ws]
  | x :: l, h, hb => by
    have ih := ws_nonneg (l := l) (!h) (fun y hy => hb y (by simp [hy]))
    have hx := hb x (by simp)
    simp only [ws, List.length_cons]
    split <;> omega
theorem ws_zero : ∀ {l : List Int} (h : Bool), (∀ x ∈ l, 0 ≤ x ∧ x < 256) → (ws h l = 0 ↔ ∀ x ∈ l, x = 0)
  | [], h, _ => by simp [ws]
  | x :: l, h, hb => by
    have ih := ws_zero (l := l) (!h) (fun y hy => hb y (by simp [hy]))
    have ih2 := ws_nonneg (l := l) (!h) (fun y hy => hb y (by simp [hy]))
    have hx := hb x (by simp)
    simp only [ws, List.mem_cons, forall_eq_or_imp]
    rw [← ih]
    split <;> omega
/-- the document's sum -/
def sumOf (l : List Int) : Int := fd (ws true l)
end Go.Vc
end

section
namespace Go.Vc
set_option linter.unusedVariables false
set_option linter.unusedSimpArgs false
set_option autoImplicit false
theorem sumOf_r {l : List Int} (hb : Byt l) : 0 ≤ sumOf l ∧ sumOf l ≤ 65535 := fd_range (ws_nonneg true hb).1
/-- a number of two bytes -/
def W16 (l : List Int) (i : Nat) : Int := bt l (i : Int) * 256 + bt l ((i + 1 : Nat) : Int)
theorem W16_r {l : List Int} (h : Byt l) (i : Nat) : 0 ≤ W16 l i ∧ W16 l i ≤ 65535 := by
  have := h.bt (i : Int)
  have := h.bt ((i + 1 : Nat) : Int)
  unfold W16; omega
theorem bt_drop (l : List Int) (n i : Nat) : bt (l.drop n) (i : Int) = bt l ((n + i : Nat) : Int) := by
  simp only [bt, Int.toNat_natCast, List.getD_eq_getElem?_getD]
  rw [List.getElem?_drop]
end Go.Vc
end

section
namespace Go.Vc
set_option linter.unusedVariables false
set_option linter.unusedSimpArgs false
set_option autoImplicit false

/-! ### two addresses, and the header that is summed with them -/
open Classical in
/-- an address's version, 0 of none -/
noncomputable def verOf (v : Int) (a : Nat → Int) : Int := if v = 6 then 6 else if v = 4 ∧ ∀ i, i < 16 → 4 ≤ i → a i = 0 then 4 else 0
theorem verOf_cases (v : Int) (a : Nat → Int) : (verOf v a = 6 ∧ v = 6) ∨ (verOf v a = 4 ∧ v = 4) ∨ verOf v a = 0 := by
  unfold verOf
  split
  · exact .inl ⟨rfl, by assumption⟩
  · split
    · rename_i h; exact .inr (.inl ⟨rfl, h.1⟩)
    · exact .inr (.inr rfl)
structure Ends where
  sv : Int
  sa : Nat → Int
  dv : Int
  da : Nat → Int
def Ends.fit (e : Ends) : Prop := verOf e.sv e.sa ≠ 0 ∧ verOf e.dv e.da = verOf e.sv e.sa
noncomputable instance (e : Ends) : Decidable e.fit := Classical.propDecidable _
structure Ends.Ok (e : Ends) : Prop where
  sa : ∀ i, i < 16 → 0 ≤ e.sa i ∧ e.sa i < 256
  da : ∀ i, i < 16 → 0 ≤ e.da i ∧ e.da i < 256
/-- the pseudo header -/
def psB (e : Ends) (p n : Int) : List Int :=
  if e.sv = 6 then arrL 16 e.sa ++ arrL 16 e.da ++ [0, 0, n / 256 % 256, n % 256, 0, 0, 0, p % 256]
  else arrL 4 e.sa ++ arrL 4 e.da ++ [0, p % 256, n / 256 % 256, n % 256]
theorem psB_len (e : Ends) (p n : Int) : (psB e p n).length % 2 = 0 ∧ (psB e p n).length ≤ 40 ∧ 12 ≤ (psB e p n).length := by
  unfold psB; split <;> simp [arrL_len]
theorem psB_byt {e : Ends} (o : e.Ok) {p n : Int} : Byt (psB e p n) := by
  unfold psB
  split
  · refine Byt.app (Byt.app (arrL_byt o.sa) (arrL_byt o.da)) ?_
    intro x hx
    simp at hx
    omega
  · refine Byt.app (Byt.app (arrL_byt fun i hi => o.sa i (by omega)) (arrL_byt fun i hi => o.da i (by omega))) ?_
    intro x hx
    simp at hx
    omega
/-- bytes summed with the pseudo header -/
def psum (e : Ends) (p : Int) (l : List Int) : Int := sumOf (psB e p (l.length : Int) ++ l)
theorem psum_r {e : Ends} (o : e.Ok) {p : Int} {l : List Int} (h : Byt l) : 0 ≤ psum e p l ∧ psum e p l ≤ 65535 := sumOf_r (psB_byt o |>.app h)
/-- the weighted sum of both is no zero: the protocol is none -/
theorem psB_pos {e : Ends} (o : e.Ok) {p n : Int} (hp : 0 < p ∧ p < 256) {l : List Int} (h : Byt l) : 0 < ws true (psB e p n ++ l) := by
  have hb := (psB_byt o (p := p) (n := n)).app h
  have hw := ws_nonneg true hb
  have : ws true (psB e p n ++ l) ≠ 0 := fun e0 => by
    have := (ws_zero true hb).1 e0 p (by
      rw [List.mem_append]
      left
      unfold psB
      have : p % 256 = p := by omega
      split <;> simp [this])
    omega
  omega
theorem ws_ps (e : Ends) (p n : Int) (l : List Int) : ws true (psB e p n ++ l) = ws true (psB e p n) + ws true l := by
  rw [ws_app]
  have : par true (psB e p n).length = true := by unfold par; rw [if_pos (psB_len e p n).1]
  rw [this]

def outN9 (n hi : Int) : Prop := n < 0 ∨ hi < n
instance (n hi : Int) : Decidable (outN9 n hi) := by unfold outN9; infer_instance

/-! ### UDP -/
structure UdV where
  sp : Int
  dp : Int
  ns : Bool
  data : List Int
def udZ : UdV := ⟨0, 0, false, []⟩
def udLen (l : List Int) : Nat := (W16 l 4).toNat
noncomputable def udErr (e : Ends) (l : List Int) : Int :=
  if 65535 < l.length then 2 else if ¬ e.fit then 20 else if l.length < 8 then 91
  else if udLen l < 8 ∨ l.length < udLen l then 92
  else if W16 l 6 = 0 then (if e.sv = 6 then 93 else 0)
  else if psum e 17 (l.take (udLen l)) ≠ 65535 then 93 else 0
def udRaw (l : List Int) : UdV := ⟨W16 l 0, W16 l 2, W16 l 6 == 0, (l.take (udLen l)).drop 8⟩
noncomputable def udOf (e : Ends) (l : List Int) : UdV := if udErr e l = 0 then udRaw l else udZ
noncomputable def udChk (v : Int) (u : UdV) : Int :=
  if v ≠ 4 ∧ v ≠ 6 then 20 else if outN9 u.sp 65535 ∨ outN9 u.dp 65535 ∨ (u.ns = true ∧ v = 6) then 98
  else if 65527 < u.data.length then 2 else 0
noncomputable def udPE (e : Ends) (u : UdV) : Int := if ¬ e.fit then 20 else udChk e.sv u
/-- the datagram, with this sum -/
def udHd (u : UdV) (c : Int) : List Int :=
  [u.sp / 256 % 256, u.sp % 256, u.dp / 256 % 256, u.dp % 256, (8 + (u.data.length : Int)) / 256 % 256, (8 + (u.data.length : Int)) % 256, c / 256 % 256, c % 256]
def udCk0 (e : Ends) (u : UdV) : Int := 65535 - psum e 17 (udHd u 0 ++ u.data)
def udCk (e : Ends) (u : UdV) : Int := if u.ns then 0 else if udCk0 e u = 0 then 65535 else udCk0 e u
def udSer (e : Ends) (u : UdV) : List Int := udHd u (udCk e u) ++ u.data
noncomputable def udSerL (e : Ends) (u : UdV) : List Int := if udPE e u = 0 then udSer e u else []

/-! ### TCP -/
structure TcV where
  sp : Int
  dp : Int
  seq : Int
  ack : Int
  fl : Int
  win : Int
  urg : Int
  opts : List Opt
  data : List Int
def tcZ : TcV := ⟨0, 0, 0, 0, 0, 0, 0, [], []⟩
def W32 (l : List Int) (i : Nat) : Int := W16 l i * 65536 + W16 l (i + 2)
/-- may an option of that kind have that length? -/
def ok9 (k n : Int) : Bool := decide (2 ≤ n) && (if k = 2 then n == 4 else if k = 3 then n == 3 else if k = 4 then n == 2 else if k = 5 then (n == 10 || n == 18 || n == 26 || n == 34) else if k = 8 then n == 10 else true)
theorem ok9_two : ∀ k n, ok9 k n = true → 2 ≤ n := fun k n h => by
  unfold ok9 at h
  rw [Bool.and_eq_true] at h
  exact of_decide_eq_true h.1
def tcHd (l : List Int) : Nat := 4 * (bt l 12 / 16).toNat
def tob (l : List Int) : List Int := (l.take (tcHd l)).drop 20
def tps (l : List Int) : List (Nat × Nat) := (optsP ok9 (tob l)).getD []
noncomputable def tcErr (e : Ends) (l : List Int) : Int :=
  if 65535 < l.length then 2 else if ¬ e.fit then 20 else if l.length < 20 then 94
  else if tcHd l < 20 ∨ l.length < tcHd l then 95
  else if psum e 6 l ≠ 65535 then 96
  else if optsP ok9 (tob l) = none then 97 else 0
def tcRaw (l : List Int) : TcV := ⟨W16 l 0, W16 l 2, W32 l 4, W32 l 8, bt l 13, W16 l 14, W16 l 18, (tps l).map (optAt (tob l)), l.drop (tcHd l)⟩
noncomputable def tcOf (e : Ends) (l : List Int) : TcV := if tcErr e l = 0 then tcRaw l else tcZ
def putOk9 (l : List Opt) : Prop := putOk l ∧ ∀ o ∈ l, ok9 o.kind ((2 + o.data.length : Nat) : Int) = true
instance (l : List Opt) : Decidable (putOk9 l) := by unfold putOk9; infer_instance
def badT (t : TcV) : Prop := outN9 t.sp 65535 ∨ outN9 t.dp 65535 ∨ outN9 t.win 65535 ∨ outN9 t.urg 65535 ∨ outN9 t.seq 4294967295 ∨ outN9 t.ack 4294967295 ∨ outN9 t.fl 255
instance (t : TcV) : Decidable (badT t) := by unfold badT; infer_instance
def tcChk (t : TcV) : Int :=
  if badT t then 98 else if ¬ putOk9 t.opts then 97 else if 65535 < 20 + (putO t.opts).length + t.data.length then 2 else 0
noncomputable def tcPE (e : Ends) (t : TcV) : Int := if ¬ e.fit then 20 else tcChk t
def thL (t : TcV) : Nat := 20 + (putO t.opts).length
def tcHead (t : TcV) (c : Int) : List Int :=
  t.sp / 256 % 256 :: t.sp % 256 :: t.dp / 256 % 256 :: t.dp % 256 :: t.seq / 16777216 % 256 :: t.seq / 65536 % 256 :: t.seq / 256 % 256 :: t.seq % 256 ::
  t.ack / 16777216 % 256 :: t.ack / 65536 % 256 :: t.ack / 256 % 256 :: t.ack % 256 :: ((thL t : Int) / 4 * 16) :: t.fl :: t.win / 256 % 256 :: t.win % 256 ::
  c / 256 % 256 :: c % 256 :: t.urg / 256 % 256 :: t.urg % 256 :: putO t.opts
def tcCk (e : Ends) (t : TcV) : Int := 65535 - psum e 6 (tcHead t 0 ++ t.data)
def tcSer (e : Ends) (t : TcV) : List Int := tcHead t (tcCk e t) ++ t.data
noncomputable def tcSerL (e : Ends) (t : TcV) : List Int := if tcPE e t = 0 then tcSer e t else []

structure UFit (u : UdV) : Prop where
  data : Byt u.data
structure TFit (t : TcV) : Prop where
  opts : ∀ o ∈ t.opts, Byt o.data
  data : Byt t.data

/-! ### written datagrams are read -/
theorem udChk_ok {v : Int} {u : UdV} (h : udChk v u = 0) : (v = 4 ∨ v = 6) ∧ (0 ≤ u.sp ∧ u.sp ≤ 65535) ∧ (0 ≤ u.dp ∧ u.dp ≤ 65535) ∧ (u.ns = true → v ≠ 6) ∧ u.data.length ≤ 65527 := by
  unfold udChk at h
  split at h; · cases h
  split at h; · cases h
  split at h; · cases h
  rename_i h1 h2 h3
  unfold outN9 at h2
  refine ⟨by omega, by omega, by omega, fun a b => h2 (.inr (.inr ⟨a, b⟩)), by omega⟩
theorem udPE_ok {e : Ends} {u : UdV} (h : udPE e u = 0) : e.fit ∧ udChk e.sv u = 0 := by
  unfold udPE at h
  split at h; · cases h
  rename_i h1
  exact ⟨Classical.not_not.1 h1, h⟩
theorem udHd_len (u : UdV) (c : Int) : (udHd u c).length = 8 := rfl
theorem udHd_byt (u : UdV) (c : Int) : Byt (udHd u c) := by
  intro x hx
  simp only [udHd, List.mem_cons, List.mem_singleton, List.not_mem_nil, or_false] at hx
  rcases hx with rfl | rfl | rfl | rfl | rfl | rfl | rfl | rfl <;> omega
theorem ws_udHd (u : UdV) {c : Int} (h0 : 0 ≤ c) (h1 : c ≤ 65535) : ws true (udHd u c) = ws true (udHd u 0) + c := by
  simp only [udHd, ws]
  simp
  omega
theorem ws_app8 {a b : List Int} (h : a.length % 2 = 0) : ws true (a ++ b) = ws true a + ws true b := by
  rw [ws_app]
  have : par true a.length = true := by unfold par; rw [if_pos h]
  rw [this]
theorem udCk0_r {e : Ends} (o : e.Ok) {u : UdV} (f : UFit u) : 0 ≤ udCk0 e u ∧ udCk0 e u ≤ 65534 := by
  have hb : Byt (udHd u 0 ++ u.data) := (udHd_byt u 0).app f.data
  have h1 := psum_r o (p := 17) hb
  have hw := psB_pos o (p := 17) (n := ((udHd u 0 ++ u.data).length : Int)) (by omega) hb
  have hz : psum e 17 (udHd u 0 ++ u.data) ≠ 0 := fun e0 => by
    unfold psum sumOf at e0
    have := (fd_zero (by omega)).1 e0
    omega
  unfold udCk0
  omega
theorem udCk_r {e : Ends} (o : e.Ok) {u : UdV} (f : UFit u) : 0 ≤ udCk e u ∧ udCk e u ≤ 65535 ∧ (udCk e u = 0 ↔ u.ns = true) := by
  have := udCk0_r o f
  unfold udCk
  cases u.ns
  · rw [if_neg (by decide)]
    split <;> simp <;> omega
  · simp
theorem psum_ud {e : Ends} (o : e.Ok) {u : UdV} (f : UFit u) (hn : u.ns = false) : psum e 17 (udSer e u) = 65535 := by
  have hc := udCk_r o f
  have h0 := udCk0_r o f
  have hb : Byt (udHd u 0 ++ u.data) := (udHd_byt u 0).app f.data
  have hpos := psB_pos o (p := 17) (n := ((udHd u 0 ++ u.data).length : Int)) (by omega) hb
  have hl : (udSer e u).length = (udHd u 0 ++ u.data).length := by simp [udSer, udHd_len]
  have e1 : ws true (psB e 17 ((udSer e u).length : Int) ++ udSer e u) = ws true (psB e 17 ((udHd u 0 ++ u.data).length : Int) ++ (udHd u 0 ++ u.data)) + udCk e u := by
    rw [hl, ws_ps, ws_ps]
    unfold udSer
    rw [ws_app8 (by rw [udHd_len]), ws_app8 (by rw [udHd_len]), ws_udHd u hc.1 hc.2.1]
    omega
  have e2 : udCk0 e u = 65535 - fd (ws true (psB e 17 ((udHd u 0 ++ u.data).length : Int) ++ (udHd u 0 ++ u.data))) := rfl
  unfold psum sumOf
  rw [e1]
  generalize ws true (psB e 17 ((udHd u 0 ++ u.data).length : Int) ++ (udHd u 0 ++ u.data)) = W at *
  rw [fd_most (by omega)]
  have e3 : udCk e u = if udCk0 e u = 0 then 65535 else udCk0 e u := by unfold udCk; rw [hn]; simp
  rw [e3]
  unfold fd at e2
  split at e2 <;> split <;> omega
theorem ud_bts (u : UdV) (c : Int) (d : List Int) (l : List Int) (hl : l = udHd u c ++ d) :
    W16 l 0 = u.sp / 256 % 256 * 256 + u.sp % 256 ∧ W16 l 2 = u.dp / 256 % 256 * 256 + u.dp % 256 ∧ W16 l 4 = (8 + (u.data.length : Int)) / 256 % 256 * 256 + (8 + (u.data.length : Int)) % 256 ∧ W16 l 6 = c / 256 % 256 * 256 + c % 256 := by
  subst hl
  exact ⟨rfl, rfl, rfl, rfl⟩
theorem ud_back {e : Ends} (o : e.Ok) {u : UdV} (f : UFit u) (h : udPE e u = 0) : udErr e (udSer e u) = 0 ∧ udOf e (udSer e u) = u := by
  obtain ⟨hf, hc⟩ := udPE_ok h
  obtain ⟨h1, h2, h3, h4, h5⟩ := udChk_ok hc
  have hk := udCk_r o f
  obtain ⟨b0, b2, b4, b6⟩ := ud_bts u (udCk e u) u.data _ (rfl : udSer e u = _)
  have hl : (udSer e u).length = 8 + u.data.length := by simp [udSer, udHd_len]
  have hul : udLen (udSer e u) = 8 + u.data.length := by unfold udLen; rw [b4]; omega
  have h6 : W16 (udSer e u) 6 = udCk e u := by rw [b6]; omega
  have ht : (udSer e u).take (udLen (udSer e u)) = udSer e u := List.take_of_length_le (by omega)
  have he : udErr e (udSer e u) = 0 := by
    unfold udErr
    rw [if_neg (by omega), if_neg (Classical.not_not.2 hf), if_neg (by omega), if_neg (by omega), h6, ht]
    by_cases hn : u.ns = true
    · rw [if_pos (hk.2.2.2 hn), if_neg (h4 hn)]
    · rw [if_neg (fun x => hn (hk.2.2.1 x)), if_neg (by rw [psum_ud o f (by simpa using hn)]; decide)]
  refine ⟨he, ?_⟩
  unfold udOf
  rw [if_pos he]
  unfold udRaw
  rw [ht, b0, b2, h6]
  have e1 : u.sp / 256 % 256 * 256 + u.sp % 256 = u.sp := by omega
  have e2 : u.dp / 256 % 256 * 256 + u.dp % 256 = u.dp := by omega
  have e3 : (udCk e u == 0) = u.ns := by
    rw [Bool.eq_iff_iff, beq_iff_eq]; exact hk.2.2
  have e4 : (udSer e u).drop 8 = u.data := rfl
  rw [e1, e2, e3, e4]
theorem udErr_ok {e : Ends} {l : List Int} (h : udErr e l = 0) : l.length ≤ 65535 ∧ e.fit ∧ 8 ≤ udLen l ∧ udLen l ≤ l.length ∧ (W16 l 6 = 0 → e.sv ≠ 6) ∧ (W16 l 6 ≠ 0 → psum e 17 (l.take (udLen l)) = 65535) := by
  unfold udErr at h
  split at h; · cases h
  split at h; · cases h
  split at h; · cases h
  split at h; · cases h
  rename_i h1 h2 h3 h4
  split at h
  · rename_i h5
    split at h; · cases h
    rename_i h6
    exact ⟨by omega, Classical.not_not.1 h2, by omega, by omega, fun _ => h6, fun x => absurd h5 x⟩
  · rename_i h5
    split at h; · cases h
    rename_i h6
    exact ⟨by omega, Classical.not_not.1 h2, by omega, by omega, fun x => absurd x h5, fun _ => Classical.not_not.1 h6⟩
end Go.Vc
end

section
open Go Go.Vc Go.Proofs
set_option linter.unusedVariables false
set_option linter.unusedSimpArgs false
set_option autoImplicit false
namespace Go.Vc.S9

theorem c75 {v : Int} {a : Nat → Int} {w : World} {R : SV → World → Prop} (k : ∀ w1, Upd [] [] w w1 → R (.int .i64 (verOf v a)) w1) : Ret Tryd.prog 75 [.struct [.int .i64 v, .arr .u8 16 a]] w R := by
  refine f75_of _ _ _ _ ?_
  unfold vc75
  intro b
  refine bre (fun h w1 u => ?_) (fun h => bre' (fun h2 w1 u => ?_) (fun h2 b1 => ?_))
  · have e : verOf v a = 6 := by unfold verOf; rw [if_pos h]
    rw [e] at k; exact k _ u.forget
  · have e : verOf v a = 0 := by unfold verOf; rw [if_neg h, if_neg (by omega)]
    rw [e] at k; exact k _ u.forget
  · refine brn (fun h3 w1 u => ?_) (fun h3 w1 u => ?_)
    · have e : verOf v a = 0 := by
        unfold verOf
        rw [if_neg h, if_neg]
        intro hh
        have : eqArr 16 a (fset (fset (fset (fset (fun (x : Nat) => 0) 0 (a 0)) 1 (a 1)) 2 (a 2)) 3 (a 3)) = true := by
          rw [eqArr_iff]
          intro i hi
          by_cases h4 : 4 ≤ i
          · rw [hh.2 i hi h4]
            simp only [fset]
            rw [nbeq_false.2 (by omega), nbeq_false.2 (by omega), nbeq_false.2 (by omega), nbeq_false.2 (by omega)]
          · have : i = 0 ∨ i = 1 ∨ i = 2 ∨ i = 3 := by omega
            rcases this with rfl | rfl | rfl | rfl <;> rfl
        rw [this] at h3
        cases h3
      rw [e] at k; exact k _ u.forget
    · have e : verOf v a = 4 := by
        unfold verOf
        rw [if_neg h, if_pos]
        refine ⟨h2, fun i hi h4 => ?_⟩
        rw [eqArr_iff] at h3
        rw [h3 i hi]
        simp only [fset]
        rw [nbeq_false.2 (by omega), nbeq_false.2 (by omega), nbeq_false.2 (by omega), nbeq_false.2 (by omega)]
      rw [e] at k; exact k _ u.forget
theorem c105 {v : Int} {a : Nat → Int} {w : World} {R : SV → World → Prop} (k : ∀ w1, Upd [] [] w w1 → R (.int .i64 (verOf v a)) w1) : Ret Tryd.prog 105 [.struct [.int .i64 v, .arr .u8 16 a]] w R := by
  refine f105_of _ _ _ _ ?_
  unfold vc105
  intro b
  refine bre (fun h w1 u => ?_) (fun h => ?_)
  · have e : verOf v a = 6 := by unfold verOf; rw [if_pos h]
    rw [e] at k; exact k _ u.forget
  · refine ⟨fun i w1 => Upd [] [] w w1 ∧ ∃ t : Nat, i = t ∧ 4 ≤ t ∧ t ≤ 16 ∧ ∀ j, 4 ≤ j → j < t → a j = 0, fun i _ => (16 - i).toNat, fun w1 u => ⟨u.forget, 4, rfl, by omega, by omega, fun j h1 h2 => by omega⟩, ?_⟩
    rintro i w1 ⟨u, t, rfl, h4, ht, hz⟩
    refine brd (fun hlt => ?_) (fun hge => ?_)
    · refine needIx2 (by omega) hlt (bre' (fun hne => ?_) (fun he => ⟨rfl, ⟨u, t + 1, wr_succ (by omega), by omega, by omega, fun j h1 h2 => ?_⟩, ?_⟩))
      · have e : verOf v a = 0 := by
          unfold verOf
          rw [if_neg h, if_neg]
          intro hh
          exact hne (hh.2 t (by omega) h4)
        rw [e] at k; exact k _ u
      · by_cases hj : j = t
        · subst hj; simpa using he
        · exact hz j h1 (by omega)
      · rw [wr_succ (by omega)]; (try dsimp only); omega
    · have : t = 16 := by omega
      subst this
      refine bre (fun h5 => ?_) (fun h5 => ?_)
      · have e : verOf v a = 4 := by unfold verOf; rw [if_neg h, if_pos ⟨h5, fun i h1 h2 => hz i h2 h1⟩]
        rw [e] at k; exact k _ u
      · have e : verOf v a = 0 := by unfold verOf; rw [if_neg h, if_neg (fun hh => h5 hh.1)]
        rw [e] at k; exact k _ u


/-- the pseudo header and the error -/
noncomputable def psE (e : Ends) (proto n : Int) : Int :=
  if verOf e.sv e.sa = 0 ∨ verOf e.dv e.da ≠ verOf e.sv e.sa then 20 else if proto < 0 ∨ proto > 255 ∨ n < 0 ∨ n > 65535 then 1 else 0
noncomputable def psP (e : Ends) (proto n : Int) : List Int :=
  if psE e proto n ≠ 0 then []
  else if verOf e.sv e.sa = 4 then arrL 4 e.sa ++ arrL 4 e.da ++ [0, proto % 256, n / 256 % 256, n % 256]
  else arrL 16 e.sa ++ arrL 16 e.da ++ [0, 0, n / 256 % 256, n % 256, 0, 0, 0, proto % 256]
theorem c22 {e : Ends} {proto n : Int} {w : World} {R : SV → World → Prop}
    (k : ∀ s w1, Upd [] [] w w1 → SeesB w1 s (psP e proto n) → Own w.heap.size 1 w1 s → R (.tuple [.slice s, .int .i64 (psE e proto n)]) w1) :
    Ret Tryd.prog 22 [.struct [.int .i64 e.sv, .arr .u8 16 e.sa], .struct [.int .i64 e.dv, .arr .u8 16 e.da], .int .i64 proto, .int .i64 n] w R := by
  refine f22_of _ _ _ _ _ _ _ _ ?_
  unfold vc22
  intro b b1 w1 u1
  refine c75 fun w2 u2 => ⟨_, rfl, kp u2, ?_⟩
  have v2 := u1.then u2
  intro J hJ
  have none : ∀ w3, Upd [] [] w w3 → ∀ x, psE e proto n = x → x ≠ 0 → R (.tuple [.slice ⟨.none, 0, 0⟩, .int .i64 x]) w3 := by
    intro w3 u3 x he hne
    rw [he] at k
    refine k _ w3 u3 ?_ (Own.none _ _ _)
    have : psP e proto n = [] := by unfold psP; rw [if_pos (by rw [he]; exact hne)]
    rw [this]; exact Sees.nil _ _ _ _
  refine bre (fun h => none _ v2 20 (by unfold psE; rw [if_pos (.inl h)]) (by decide)) (fun h => ?_)
  refine c75 fun w3 u3 => ⟨_, rfl, kp u3, ?_⟩
  have v3 := v2.then u3
  refine bre' (fun h2 => none _ v3 20 (by unfold psE; rw [if_pos (.inr h2)]) (by decide)) (fun h2 => ?_)
  have hE : ∀ c : Prop, (proto < 0 ∨ proto > 255 ∨ n < 0 ∨ n > 65535) → psE e proto n = 1 := fun _ hc => by unfold psE; rw [if_neg (by omega), if_pos hc]
  refine brd (fun h3 => none _ v3 1 (hE True (by omega)) (by decide)) (fun h3 => brd (fun h4 => none _ v3 1 (hE True (by omega)) (by decide)) (fun h4 => brd (fun h5 => none _ v3 1 (hE True (by omega)) (by decide)) (fun h5 => brd (fun h6 => none _ v3 1 (hE True (by omega)) (by decide)) (fun h6 => ⟨rfl, rfl, hJ _ ?_⟩))))
  clear hJ none hE
  have he : psE e proto n = 0 := by unfold psE; rw [if_neg (by omega), if_neg (by omega)]
  rw [he] at k
  have hb1 : b1 < w3.heap.size := by have := u1.new (b := b1) (by simp); have := u2.size; have := u3.size; omega
  have hb : b < w3.heap.size := by have := u1.new (b := b) (by simp); have := u2.size; have := u3.size; omega
  have core : ∀ (q : Nat) (hq : q ≤ 16) (tl : List Int) (w4 : World) (K : Sl → World → Prop), w4.heap[b]? = some (.cells (SV.cells (.struct [.int .i64 e.sv, .arr .u8 16 e.sa])).toArray 27 (0, 0)) → w4 = w3 →
      (∀ s w5, Upd [] [] w w5 → SeesB w5 s (arrL q e.sa ++ arrL q e.da) → Own w.heap.size 1 w5 s → K s w5) →
      Vc.Append 5 1 1 ⟨.none, 0, 0⟩ (Sl.sub ⟨some ⟨b, 1, .none⟩, 16, 16⟩ 1 0 q 16) [b1] w4 fun r w =>
        w.heap[b1]? = some (.cells (SV.cells (.struct [.int .i64 e.dv, .arr .u8 16 e.da])).toArray 27 (0, 0)) → Vc.Append 5 1 1 r (Sl.sub ⟨some ⟨b1, 1, .none⟩, 16, 16⟩ 1 0 q 16) [] w K := by
    intro q hq tl w4 K hr e4 hK
    subst e4
    have hs := rowMid (o := 1) (cap := 16) hr [.int .i64 e.sv] [] (arrL 16 e.sa) (by simp [SV.cells, SV.cellsL, ← arrL_cells]) rfl (arrL_len _ _).symm
    have hs2 := hs.subB (lo := 0) (hi := q) (mx := 16) (by omega) (by rw [arrL_len]; exact hq) hq
    have e1 : ∀ f : Nat → Int, ((arrL 16 f).take q).drop 0 = arrL q f := by
      intro f
      simp only [arrL, List.drop_zero, ← List.map_take, List.take_range, Nat.min_eq_left hq]
    rw [e1] at hs2
    refine append_own (c := cU8) (Sees.nil _ _ _ _) (Own.none w.heap.size _ _) hs2 v3.size (by simp [Sl.blk]) (by omega) (by simp [arrL_len]; omega) fun r w5 hr5 ho5 u5 hnew => ?_
    intro hrow
    have hd := rowMid (o := 1) (cap := 16) hrow [.int .i64 e.dv] [] (arrL 16 e.da) (by simp [SV.cells, SV.cellsL, ← arrL_cells]) rfl (arrL_len _ _).symm
    have hd2 := hd.subB (lo := 0) (hi := q) (mx := 16) (by omega) (by rw [arrL_len]; exact hq) hq
    rw [e1] at hd2
    simp only [List.nil_append] at hr5
    have v5 := v3.step0 u5 (by simp [Sl.blk])
    refine append_own (c := cU8) hr5 ho5 hd2 v5.size (by simp) (by omega) (by simp [arrL_len]; omega) fun r2 w6 hr6 ho6 u6 _ => ?_
    exact hK _ _ (v5.step0 u6 (fun b hb => (ho5.blk b hb).1)) hr6 ho6
  refine bre (fun h7 hrow _ => core 4 (by omega) [] _ _ hrow rfl ?_) (fun h7 hrow _ => core 16 (by omega) [] _ _ hrow rfl ?_)
  · intro s w5 u5 hs5 ho5 b4 w6 u6 hr6
    have v6 := u5.then u6
    refine append_own (c := cU8) (new := [0, proto % 256, n / 256 % 256, n % 256]) (hs5.old u6) (ho5.old u6) (rowB hr6 _ (by rw [gshr8, wr_u8, wr_u8, wr_u8]; rfl) rfl) v6.size (by simp) (by omega) (by simp [arrL_len]) fun r w7 hr7 ho7 u7 _ => ?_
    refine k _ _ (v6.step0 u7 (fun b hb => ((ho5.old u6).blk b hb).1)) ?_ ho7
    unfold psP
    rw [if_neg (by omega), if_pos h7]
    exact hr7
  · intro s w5 u5 hs5 ho5 b4 w6 u6 hr6
    have v6 := u5.then u6
    refine append_own (c := cU8) (new := [0, 0, n / 256 % 256, n % 256, 0, 0, 0, proto % 256]) (hs5.old u6) (ho5.old u6) (rowB hr6 _ (by rw [gshr8, wr_u8, wr_u8, wr_u8]; rfl) rfl) v6.size (by simp) (by omega) (by simp [arrL_len]) fun r w7 hr7 ho7 u7 _ => ?_
    refine k _ _ (v6.step0 u7 (fun b hb => ((ho5.old u6).blk b hb).1)) ?_ ho7
    unfold psP
    rw [if_neg (by omega), if_neg h7]
    exact hr7
theorem c102 {e : Ends} {proto n : Int} {w : World} {R : SV → World → Prop}
    (k : ∀ s w1, Upd [] [] w w1 → SeesB w1 s (psP e proto n) → Own w.heap.size 1 w1 s → R (.tuple [.slice s, .int .i64 (psE e proto n)]) w1) :
    Ret Tryd.prog 102 [.struct [.int .i64 e.sv, .arr .u8 16 e.sa], .struct [.int .i64 e.dv, .arr .u8 16 e.da], .int .i64 proto, .int .i64 n] w R := by
  refine f102_of _ _ _ _ _ _ _ _ ?_
  unfold vc102
  intro b b1 w1 u1
  refine c105 fun w2 u2 => ⟨_, rfl, kp u2, ?_⟩
  have v2 := u1.then u2
  intro J hJ
  have none : ∀ w3, Upd [] [] w w3 → ∀ x, psE e proto n = x → x ≠ 0 → R (.tuple [.slice ⟨.none, 0, 0⟩, .int .i64 x]) w3 := by
    intro w3 u3 x he hne
    rw [he] at k
    refine k _ w3 u3 ?_ (Own.none _ _ _)
    have : psP e proto n = [] := by unfold psP; rw [if_pos (by rw [he]; exact hne)]
    rw [this]; exact Sees.nil _ _ _ _
  refine bre (fun h => none _ v2 20 (by unfold psE; rw [if_pos (.inl h)]) (by decide)) (fun h => ?_)
  refine c105 fun w3 u3 => ⟨_, rfl, kp u3, ?_⟩
  have v3 := v2.then u3
  refine bre' (fun h2 => none _ v3 20 (by unfold psE; rw [if_pos (.inr h2)]) (by decide)) (fun h2 => ⟨rfl, rfl, hJ _ ?_⟩)
  clear hJ
  intro J hJ
  have hE : ∀ c : Prop, (proto < 0 ∨ proto > 255 ∨ n < 0 ∨ n > 65535) → psE e proto n = 1 := fun _ hc => by unfold psE; rw [if_neg (by omega), if_pos hc]
  refine brd (fun h3 => none _ v3 1 (hE True (by omega)) (by decide)) (fun h3 => brd (fun h4 => none _ v3 1 (hE True (by omega)) (by decide)) (fun h4 => brd (fun h5 => none _ v3 1 (hE True (by omega)) (by decide)) (fun h5 => brd (fun h6 => none _ v3 1 (hE True (by omega)) (by decide)) (fun h6 => ⟨rfl, rfl, hJ _ ?_⟩))))
  clear hJ none hE
  have he : psE e proto n = 0 := by unfold psE; rw [if_neg (by omega), if_neg (by omega)]
  rw [he] at k
  have hb1 : b1 < w3.heap.size := by have := u1.new (b := b1) (by simp); have := u2.size; have := u3.size; omega
  have hb : b < w3.heap.size := by have := u1.new (b := b) (by simp); have := u2.size; have := u3.size; omega
  -- what is made lies above the boxes
  have out : ∀ s w4, Upd [] [] w3 w4 → SeesB w4 s (psP e proto n) → Own w3.heap.size 1 w4 s → R (.tuple [.slice s, .int .i64 0]) w4 := fun s w4 u4 hs ho => k s w4 (v3.then u4) hs (ho.mono v3.size)
  have hbs : ∀ x ∈ [b, b1], x < w3.heap.size := by simp; omega
  have hn1 : wr .u8 (wr .i64 (Int.tdiv n 256)) = n / 256 % 256 := by rw [tdiv_pos (by omega), wr_i64 (by omega) (by omega), wr_u8]
  have hn2 : wr .u8 (Int.tmod n 256) = n % 256 := by rw [tmod_pos (by omega), wr_u8]; omega
  rw [hn1, hn2, wr_u8]
  have hout : ∀ {N : Nat} {w : World} {s : Sl}, Own w3.heap.size 1 w s → ∀ b' ∈ s.blk, b' ∉ [b, b1] := by
    intro N w s ho b' hb' hm
    have := (ho.blk b' hb').1
    have := hbs b' hm
    omega
  refine bre (fun h7 => ?_) (fun h7 => ?_)
  · intro b4 w4 u4 hr4
    refine append_own (c := cU8) (N := w3.heap.size) (new := arrL 4 e.sa ++ arrL 4 e.da) (Sees.nil _ _ _ _) (Own.none _ _ _) (rowB hr4 _ rfl rfl) u4.size (by simp [Sl.blk]) (by omega) (by simp [arrL_len]) fun r w5 hr5 ho5 u5 _ => ?_
    have v5 := u4.step0 (m' := Sl.blk ⟨.none, 0, 0⟩) (n' := []) (w0 := w3) u5 (by simp [Sl.blk])
    intro b6 w6 u6 hr6
    have v6 := v5.then u6
    refine append_own (c := cU8) (new := [0, proto % 256, n / 256 % 256, n % 256]) (hr5.old u6) (ho5.old u6) (rowB hr6 _ rfl rfl) v6.size (hout (N := 0) (ho5.old u6)) (by omega) (by simp [arrL_len]) fun r w7 hr7 ho7 u7 _ => ?_
    refine out _ _ (v6.step0 u7 (fun b hb => ((ho5.old u6).blk b hb).1)) ?_ ho7
    unfold psP
    rw [if_neg (by omega), if_pos h7]
    exact hr7
  · refine app_loop (m := 16) (f := e.sa) rfl (Upd.refl w3) (Sees.nil _ _ _ _) (Own.none _ _ _) (by simp) (fun t ht => by simp [SV.cells, SV.cellsL]) hbs (fun I M s n w r w' h1 h2 => ⟨rfl, rfl, h1, h2⟩) fun s w4 u4 hs4 ho4 => ?_
    refine app_loop (m := 16) (f := e.da) rfl u4 hs4 ho4 (by simp [arrL_len]) (fun t ht => by simp [SV.cells, SV.cellsL]) hbs (fun I M s n w r w' h1 h2 => ⟨rfl, rfl, h1, h2⟩) fun s w5 u5 hs5 ho5 => ?_
    intro b6 w6 u6 hr6
    have v6 := u5.then u6
    refine append_own (c := cU8) (new := [0, 0, n / 256 % 256, n % 256, 0, 0, 0, proto % 256]) (hs5.old u6) (ho5.old u6) (rowB hr6 _ rfl rfl) v6.size (hout (N := 0) (ho5.old u6)) (by omega) (by simp [arrL_len]) fun r w7 hr7 ho7 u7 _ => ?_
    refine out _ _ (v6.step0 u7 (fun b hb => ((ho5.old u6).blk b hb).1)) ?_ ho7
    unfold psP
    rw [if_neg (by omega), if_neg h7]
    simpa using hr7

theorem psE_fit {e : Ends} {p n : Int} (h : e.fit) (hp : 0 ≤ p ∧ p ≤ 255) (hn : 0 ≤ n ∧ n ≤ 65535) : psE e p n = 0 ∧ psP e p n = psB e p n := by
  obtain ⟨h1, h2⟩ := h
  have e0 : psE e p n = 0 := by unfold psE; rw [if_neg (by rintro (x | x); exact h1 x; exact x h2), if_neg (by omega)]
  refine ⟨e0, ?_⟩
  unfold psP psB
  rw [if_neg (by omega)]
  rcases verOf_cases e.sv e.sa with q | q | q
  · rw [if_neg (by omega), if_pos q.2]
  · rw [if_pos q.1, if_neg (by omega)]
  · exact absurd q h1
theorem psE_no {e : Ends} {p n : Int} (h : ¬ e.fit) : psE e p n = 20 ∧ psP e p n = [] := by
  have e0 : psE e p n = 20 := by
    unfold psE; rw [if_pos]
    refine Classical.byContradiction fun hn => h ⟨fun x => hn (.inl x), Classical.byContradiction fun x => hn (.inr x)⟩
  exact ⟨e0, by unfold psP; rw [if_pos (by omega)]⟩
end Go.Vc.S9
end

section
section
open Go Go.Vc Go.Proofs
set_option linter.unusedVariables false
set_option linter.unusedSimpArgs false
set_option autoImplicit false
namespace Go.Vc.S9

theorem c101 {n : Int} {w : World} {R : SV → World → Prop} (h0 : 0 ≤ n) (h1 : n < 9223372036854775808) (k : R (.int .i64 (fd n)) w) : Ret Tryd.prog 101 [.int .i64 n] w R := by
  refine f101_of _ _ _ ?_
  unfold vc101
  refine ⟨fun m w1 => w1 = w ∧ 0 ≤ m ∧ m < 9223372036854775808 ∧ fd m = fd n, fun m _ => m.toNat, ⟨rfl, h0, h1, rfl⟩, ?_⟩
  rintro m w1 ⟨rfl, a, b, c⟩
  refine brd (fun h => ?_) (fun h => ?_)
  · rw [and_65535, gshr16, wr_i64 (by omega) (by omega)]
    exact ⟨⟨rfl, by omega, by omega, by rw [fd_step h]; exact c⟩, by dsimp only; omega⟩
  · rw [fd_id a (by omega)] at c
    rw [c]; exact k

theorem c76 {parts : Sl} {ls : List (List Int)} {ss : List Sl} {w : World} {R : SV → World → Prop} (h : Parts w parts ls ss) (hb : ∀ l ∈ ls, Byt l) (hn : ls.length < 9223372036854775807) (hl : ∀ l ∈ ls, l.length ≤ 140737488355328)
    (k : R (.int .i64 (sumOf ls.flatten)) w) : Ret Tryd.prog 76 [.slice parts] w R := by
  refine f76_of _ _ _ ?_
  unfold vc76
  refine ⟨fun n b i w1 => w1 = w ∧ ∃ q : Nat, i = q ∧ q ≤ ls.length ∧ n = fd (ws true (ls.take q).flatten) ∧ b = par true (ls.take q).flatten.length, fun _ _ i _ => (ls.length - i).toNat, ⟨rfl, 0, rfl, by omega, by simp [ws, fd], by simp [par]⟩, ?_⟩
  rintro n b i w1 ⟨rfl, q, rfl, hq, rfl, rfl⟩
  have hw0 := ws_nonneg true (byt_flat_take hb q)
  have hf0 := fd_range hw0.1
  refine brd (fun hlt => ?_) (fun hge => ?_)
  · rw [h.slen] at hlt
    refine needP h (by omega) hlt ?_
    obtain ⟨h1, h2, hc, hs, hp⟩ := h.get (i := (q : Int)) (by omega) hlt
    refine ⟨_, hc, ?_⟩
    simp only [Int.toNat_natCast] at hs h1 h2 ⊢
    have hbp : Byt ls[q] := hb _ (List.getElem_mem _)
    have hlp := hl _ (List.getElem_mem h2)
    refine ⟨fun n b j w2 => w2 = w1 ∧ ∃ t : Nat, j = t ∧ t ≤ ls[q].length ∧ n = fd (ws true (ls.take q).flatten) + ws (par true (ls.take q).flatten.length) (ls[q].take t) ∧ b = par (par true (ls.take q).flatten.length) t,
      fun _ _ j _ => (ls[q].length - j).toNat, ⟨rfl, 0, rfl, by omega, by simp [ws], by simp [par]⟩, ?_⟩
    rintro n b j w2 ⟨rfl, t, rfl, ht, rfl, rfl⟩
    have hw1 := ws_nonneg (par true (ls.take q).flatten.length) (hbp.take t)
    have hlt1 : ((ls[q].take t).length : Int) ≤ 140737488355328 := by rw [List.length_take]; omega
    refine brd (fun hlt2 => ?_) (fun hge2 => ?_)
    · rw [hs.len] at hlt2
      refine needB hs (by omega) hlt2 ?_
      refine ⟨_, hs.byte (by omega) hlt2, ?_⟩
      have hbb := hbp.bt (t : Int)
      have hls : ((ls[q].take t).length : Int) = t := by rw [List.length_take]; omega
      have hsn := ws_snoc (ls[q].take t) ls[q][t] (par true (ls.take q).flatten.length)
      rw [← take_snoc (by omega), ← bt_nat (by omega)] at hsn
      have hbt : par (par true (ls.take q).flatten.length) (ls[q].take t).length = par (par true (ls.take q).flatten.length) t := by congr 1; rw [List.length_take]; omega
      rw [hbt] at hsn
      rw [wr_i64 (x := bt ls[q] t) (by omega) (by omega), gshl8, wr_i64 (x := bt ls[q] t * 256) (by omega) (by omega), wr_i64 (x := (t : Int) + 1) (by omega) (by omega)]
      refine fun J hJ => brb (fun e => ?_) (fun e => ?_)
      · rw [e] at hsn
        refine hJ _ _ ⟨⟨rfl, t + 1, by push_cast; rfl, by omega, ?_, ?_⟩, by dsimp only; omega⟩
        · rw [hsn, wr_i64 (by omega) (by omega)]; simp; omega
        · rw [← par_succ]; simp only [par]; split <;> rfl
      · rw [e] at hsn
        refine hJ _ _ ⟨⟨rfl, t + 1, by push_cast; rfl, by omega, ?_, ?_⟩, by dsimp only; omega⟩
        · rw [hsn, wr_i64 (by omega) (by omega)]; simp; omega
        · rw [← par_succ]; simp only [par]; split <;> rfl
    · have ht' : t = ls[q].length := by rw [hs.len] at hge2; omega
      subst ht'
      rw [List.take_length] at hw1 ⊢
      refine c101 (by omega) (by omega) ⟨_, rfl, ⟨rfl, q + 1, ?_, by omega, ?_, ?_⟩, ?_⟩
      · rw [wr_i64 (by omega) (by omega)]; push_cast; rfl
      · rw [flat_snoc h2, ws_app, fd_add' hw0.1 hw1.1]
      · rw [flat_snoc h2, List.length_append]
        rw [par_par]
      · rw [wr_i64 (by omega) (by omega)]; omega
  · rw [h.slen] at hge
    have : q = ls.length := by omega
    subst this
    rw [List.take_length]
    exact k

theorem c72 {parts : Sl} {ls : List (List Int)} {ss : List Sl} {w : World} {R : SV → World → Prop} (h : Parts w parts ls ss) (hb : ∀ l ∈ ls, Byt l) (hn : ls.length < 9223372036854775807) (hl : ∀ l ∈ ls, l.length ≤ 140737488355328)
    (k : R (.int .i64 (65535 - sumOf ls.flatten)) w) : Ret Tryd.prog 72 [.slice parts] w R := by
  refine f72_of _ _ _ ?_
  unfold vc72
  refine c76 h hb hn hl ⟨_, rfl, ?_⟩
  have := fd_range (ws_nonneg true (byt_flat hb)).1
  rw [wr_i64 (by unfold sumOf; omega) (by unfold sumOf; omega)]
  exact k
theorem c24 {parts : Sl} {ls : List (List Int)} {ss : List Sl} {w : World} {R : SV → World → Prop} (h : Parts w parts ls ss) (hb : ∀ l ∈ ls, Byt l) (hn : ls.length < 9223372036854775807) (hl : ∀ l ∈ ls, l.length ≤ 140737488355328)
    (k : R (.bool (sumOf ls.flatten == 65535)) w) : Ret Tryd.prog 24 [.slice parts] w R := by
  refine f24_of _ _ _ ?_
  unfold vc24
  exact c76 h hb hn hl ⟨_, rfl, k⟩
end Go.Vc.S9
end
section
open Go Go.Vc Go.Proofs
set_option linter.unusedVariables false
set_option linter.unusedSimpArgs false
set_option autoImplicit false
namespace Go.Vc.S9

theorem c107 {n : Int} {w : World} {R : SV → World → Prop} (h0 : 0 ≤ n) (h1 : n < 9223372036854775808) (k : R (.int .i64 (fd n)) w) : Ret Tryd.prog 107 [.int .i64 n] w R := by
  refine f107_of _ _ _ ?_
  unfold vc107
  refine bre (fun h => ?_) (fun h => ?_)
  · subst h; exact k
  · rw [wr_i64 (x := n - 1) (by omega) (by omega), tmod_pos (by omega), wr_i64 (by omega) (by omega)]
    unfold fd at k
    rw [if_neg h] at k
    exact k

theorem c106 {parts : Sl} {ls : List (List Int)} {ss : List Sl} {w : World} {R : SV → World → Prop} (h : Parts w parts ls ss) (hb : ∀ l ∈ ls, Byt l) (hn : ls.length < 9223372036854775807) (hl : ls.flatten.length ≤ 140737488355328)
    (k : R (.int .i64 (sumOf ls.flatten)) w) : Ret Tryd.prog 106 [.slice parts] w R := by
  refine f106_of _ _ _ ?_
  unfold vc106
  refine ⟨fun at_ n i w1 => w1 = w ∧ ∃ q : Nat, i = q ∧ q ≤ ls.length ∧ at_ = ((ls.take q).flatten.length : Nat) ∧ n = ws true (ls.take q).flatten, fun _ _ i _ => (ls.length - i).toNat, ⟨rfl, 0, rfl, by omega, by simp, by simp [ws]⟩, ?_⟩
  rintro at_ n i w1 ⟨rfl, q, rfl, hq, rfl, rfl⟩
  have hw0 := ws_nonneg true (byt_flat_take hb q)
  have hf := flat_le ls q
  refine brd (fun hlt => ?_) (fun hge => ?_)
  · rw [h.slen] at hlt
    obtain ⟨h1, h2, hc, hs, hp⟩ := h.get (i := (q : Int)) (by omega) hlt
    simp only [Int.toNat_natCast] at hs h1 h2 hc
    have hfs := flat_snoc h2
    have hf1 := flat_le ls (q + 1)
    rw [hfs, List.length_append] at hf1
    have hbp : Byt ls[q] := hb _ (List.getElem_mem _)
    refine ⟨fun at_ n j w2 => w2 = w1 ∧ ∃ t : Nat, j = t ∧ t ≤ ls[q].length ∧ at_ = ((ls.take q).flatten.length + t : Nat) ∧ n = ws true (ls.take q).flatten + ws (par true (ls.take q).flatten.length) (ls[q].take t),
      fun _ _ j _ => (ls[q].length - j).toNat, ⟨rfl, 0, rfl, by omega, by simp, by simp [ws]⟩, ?_⟩
    rintro at_ n j w2 ⟨rfl, t, rfl, ht, rfl, rfl⟩
    refine needP h (by omega) hlt ⟨_, (by rw [Int.toNat_natCast]; exact hc), ?_⟩
    have hw1 := ws_nonneg (par true (ls.take q).flatten.length) (hbp.take t)
    have hls : ((ls[q].take t).length : Int) = t := by rw [List.length_take]; omega
    refine brd (fun hlt2 => ?_) (fun hge2 => ?_)
    · refine fun J hJ => needP h (by omega) hlt ⟨_, (by rw [Int.toNat_natCast]; exact hc), ?_⟩
      rw [hs.len] at hlt2
      refine needB hs (by omega) hlt2 ⟨_, hs.byte (by omega) hlt2, ?_⟩
      have hbb := hbp.bt (t : Int)
      have hsn := ws_snoc (ls[q].take t) ls[q][t] (par true (ls.take q).flatten.length)
      rw [← take_snoc (by omega), ← bt_nat (by omega)] at hsn
      have hbt : par (par true (ls.take q).flatten.length) (ls[q].take t).length = decide (((ls.take q).flatten.length + t) % 2 = 0) := by
        rw [par_par, List.length_take, Nat.min_eq_left ht]; unfold par; split <;> simp_all
      rw [hbt] at hsn
      refine fun J1 hJ1 => bre (fun e => ?_) (fun e => ?_)
      all_goals
        rw [tmod_pos (by omega)] at e
        refine hJ1 _ _ (hJ _ _ _ ⟨⟨rfl, t + 1, ?_, by omega, ?_, ?_⟩, ?_⟩)
        · rw [wr_i64 (by omega) (by omega)]; push_cast; rfl
        · rw [wr_i64 (by omega) (by omega)]; push_cast; omega
        · first
            | rw [if_pos (decide_eq_true (by omega))] at hsn
            | rw [if_neg (by rw [decide_eq_true_eq]; omega)] at hsn
          first
            | rw [wr_i64 (x := bt ls[q] t) (by omega) (by omega), wr_i64 (x := bt ls[q] t * 256) (by omega) (by omega), wr_i64 (by omega) (by omega)]; omega
            | rw [wr_i64 (x := bt ls[q] t) (by omega) (by omega), wr_i64 (by omega) (by omega)]; omega
        · rw [wr_i64 (x := (t : Int) + 1) (by omega) (by omega)]; (try dsimp only); omega
    · have ht' : t = ls[q].length := by rw [hs.len] at hge2; omega
      subst ht'
      rw [List.take_length]
      refine ⟨⟨rfl, q + 1, ?_, by omega, ?_, ?_⟩, ?_⟩
      · rw [wr_i64 (by omega) (by omega)]; push_cast; rfl
      · rw [hfs, List.length_append]
      · rw [hfs, ws_app]
      · rw [wr_i64 (by omega) (by omega)]; (try dsimp only); omega
  · rw [h.slen] at hge
    have : q = ls.length := by omega
    subst this
    rw [List.take_length] at hw0 ⊢
    exact c107 (by omega) (by omega) ⟨_, rfl, k⟩
theorem c104 {parts : Sl} {ls : List (List Int)} {ss : List Sl} {w : World} {R : SV → World → Prop} (h : Parts w parts ls ss) (hb : ∀ l ∈ ls, Byt l) (hn : ls.length < 9223372036854775807) (hl : ls.flatten.length ≤ 140737488355328)
    (k : R (.int .i64 (65535 - sumOf ls.flatten)) w) : Ret Tryd.prog 104 [.slice parts] w R := by
  refine f104_of _ _ _ ?_
  unfold vc104
  refine c106 h hb hn hl ⟨_, rfl, ?_⟩
  have := fd_range (ws_nonneg true (byt_flat hb)).1
  rw [wr_i64 (by unfold sumOf; omega) (by unfold sumOf; omega)]
  exact k
end Go.Vc.S9
end
end

section
open Go Go.Vc Go.Vc.S9 Go.Proofs
set_option maxRecDepth 100000
set_option linter.unusedVariables false
namespace Go.Vc.S9
def vc40 (b : Sl) (w : World) (R : SV → World → Prop) : Prop :=
  Vc.Append 5 1 1 { ptr := none, len := 0, cap := 0 } b [] w fun (r : Sl) (w : World) => R (SV.slice r) w
theorem f40_of (b : Sl) (w : World) (R : SV → World → Prop) (h : vc40 b w R) : Ret Tryd.prog 40 [.slice b] w R :=
  have e : vc40 b w R = fnVC X Tryd.f40 a40 [.slice b] w R := by kernel_rfl
  fnVC_sound X_ok (n := a40) (e ▸ h) (by kernel_rfl) (by kernel_rfl) rfl rfl

def vc30 (a : Sl) (b : Sl) (w : World) (R : SV → World → Prop) : Prop :=
  BytesStr w a fun (b_1 : ByteArray) => BytesStr w b fun (b : ByteArray) => R (SV.bool (b_1 == b)) w
theorem f30_of (a : Sl) (b : Sl) (w : World) (R : SV → World → Prop) (h : vc30 a b w R) : Ret Tryd.prog 30 [.slice a, .slice b] w R :=
  have e : vc30 a b w R = fnVC X Tryd.f30 a30 [.slice a, .slice b] w R := by kernel_rfl
  fnVC_sound X_ok (n := a30) (e ▸ h) (by kernel_rfl) (by kernel_rfl) rfl rfl

def vc47 (a : Sl) (b : Sl) (w : World) (R : SV → World → Prop) : Prop :=
  Br ((↑a.2 : Int) != (↑b.2 : Int)) (R (SV.bool false) w)
    (∃ (I : Int → World → Prop),
      ∃ (M : Int → World → Nat),
        I 0 w ∧
          ∀ (n : Int) (w1 : World),
            I n w1 →
              Br (decide (n < (↑a.2 : Int)))
                (∀ (J : World → Prop),
                  (∀ (w1_1 : World), I (wr IntKind.i64 (n + 1)) w1_1 ∧ M (wr IntKind.i64 (n + 1)) w1_1 < M n w1 → J w1_1) →
                    Need (decide (0 ≤ n) && decide (n < (↑a.2 : Int)) && Option.isSome a.1)
                      (∃ (s : Sl),
                        World.cell? w1 (Addr.add (Sl.at a 2 (Int.toNat n)) 1) = some (Sl.val s) ∧
                          Need (decide (0 ≤ n) && decide (n < (↑b.2 : Int)) && Option.isSome b.1)
                            (∃ (s_1 : Sl),
                              World.cell? w1 (Addr.add (Sl.at b 2 (Int.toNat n)) 1) = some (Sl.val s_1) ∧
                                ∀ (w1_1 : World),
                                  Upd [] [] w1 w1_1 →
                                    Ret Tryd.prog 30 [SV.slice s, SV.slice s_1] w1_1 fun (r : SV) (w1 : World) =>
                                      ∃ (b_1 : Bool),
                                        r = SV.bool b_1 ∧
                                          Need (decide (0 ≤ n) && decide (n < (↑a.2 : Int)) && Option.isSome a.1)
                                            (∃ (n_1 : Int),
                                              World.cell? w1 (Sl.at a 2 (Int.toNat n)) = some (Value.int IntKind.i64 n_1) ∧
                                                Need (decide (0 ≤ n) && decide (n < (↑b.2 : Int)) && Option.isSome b.1)
                                                  (∃ (n_2 : Int),
                                                    World.cell? w1 (Sl.at b 2 (Int.toNat n)) = some (Value.int IntKind.i64 n_2) ∧
                                                      Br (n_1 != n_2) (∀ (w1_2 : World), Upd [] [] w1 w1_2 → R (SV.bool false) w1_2)
                                                        (Br (!b_1) (∀ (w1_2 : World), Upd [] [] w1 w1_2 → R (SV.bool false) w1_2) (∀ (w1_2 : World), Upd [] [] w1 w1_2 → J w1_2)))))))
                (R (SV.bool true) w1))
theorem f47_of (a : Sl) (b : Sl) (w : World) (R : SV → World → Prop) (h : vc47 a b w R) : Ret Tryd.prog 47 [.slice a, .slice b] w R :=
  have e : vc47 a b w R = fnVC X Tryd.f47 a47 [.slice a, .slice b] w R := by kernel_rfl
  fnVC_sound X_ok (n := a47) (e ▸ h) (by kernel_rfl) (by kernel_rfl) rfl rfl

def vc80 (l : Sl) (w : World) (R : SV → World → Prop) : Prop :=
  ∃ (I : Sl → Int → World → Prop),
    ∃ (M : Sl → Int → World → Nat),
      I { ptr := none, len := 0, cap := 0 } 0 w ∧
        ∀ (s : Sl) (n : Int) (w1 : World),
          I s n w1 →
            Br (decide (n < (↑l.2 : Int)))
              (Need (decide (0 ≤ n) && decide (n < (↑l.2 : Int)) && Option.isSome l.1)
                (∃ (n_1 : Int),
                  World.cell? w1 (Sl.at l 2 (Int.toNat n)) = some (Value.int IntKind.i64 n_1) ∧
                    Need (decide (0 ≤ n) && decide (n < (↑l.2 : Int)) && Option.isSome l.1)
                      (∃ (s_1 : Sl),
                        World.cell? w1 (Addr.add (Sl.at l 2 (Int.toNat n)) 1) = some (Sl.val s_1) ∧
                          ∀ (w1_1 : World),
                            Upd [] [] w1 w1_1 →
                              Ret Tryd.prog 40 [SV.slice s_1] w1_1 fun (r : SV) (w1_2 : World) =>
                                ∃ (s_2 : Sl),
                                  r = SV.slice s_2 ∧
                                    Upd [] [] w1 w1_2 ∧
                                      ∀ (b : Nat) (w1_3 : World),
                                        Upd [] [b] w1_2 w1_3 →
                                          (World.heap w1_3)[b]? = some (Obj.cells { toList := SV.cells (SV.struct [SV.struct [SV.int IntKind.i64 n_1, SV.slice s_2]]) } 60) →
                                            Vc.Append 60 2 32 s { ptr := some { block := b, off := 0 }, len := 1, cap := 1 } [] w1_3 fun (r : Sl) (w : World) =>
                                              I r (wr IntKind.i64 (n + 1)) w ∧ M r (wr IntKind.i64 (n + 1)) w < M s n w1)))
              (R (SV.slice s) w1)
theorem f80_of (l : Sl) (w : World) (R : SV → World → Prop) (h : vc80 l w R) : Ret Tryd.prog 80 [.slice l] w R :=
  have e : vc80 l w R = fnVC X Tryd.f80 a80 [.slice l] w R := by kernel_rfl
  fnVC_sound X_ok (n := a80) (e ▸ h) (by kernel_rfl) (by kernel_rfl) rfl rfl

def vc39 (l : Sl) (w : World) (R : SV → World → Prop) : Prop :=
  ∃ (I : Sl → Int → World → Prop),
    ∃ (M : Sl → Int → World → Nat),
      I { ptr := none, len := 0, cap := 0 } 0 w ∧
        ∀ (s : Sl) (n : Int) (w1 : World),
          I s n w1 →
            Br (decide (n < (↑l.2 : Int)))
              (Need (decide (0 ≤ n) && decide (n < (↑l.2 : Int)) && Option.isSome l.1)
                (∃ (n_1 : Int),
                  World.cell? w1 (Sl.at l 2 (Int.toNat n)) = some (Value.int IntKind.i64 n_1) ∧
                    ∃ (s_1 : Sl),
                      World.cell? w1 (Addr.add (Sl.at l 2 (Int.toNat n)) 1) = some (Sl.val s_1) ∧
                        ∀ (b : Nat) (J : World → Prop),
                          (∀ (w1_1 : World),
                              (∀ (b_1 : Nat) (w1_2 : World),
                                  Upd [] [b_1] w1_1 w1_2 →
                                    (World.heap w1_2)[b_1]? =
                                        some
                                          (Obj.cells
                                            {
                                              toList :=
                                                SV.cells
                                                  (SV.struct [SV.int IntKind.u8 (wr IntKind.u8 n_1), SV.int IntKind.u8 (wr IntKind.u8 (wr IntKind.i64 (2 + (↑s_1.2 : Int))))]) }
                                            5) →
                                      Vc.Append 5 1 1 s { ptr := some { block := b_1, off := 0 }, len := 2, cap := 2 } [b] w1_2 fun (r : Sl) (w : World) =>
                                        Vc.Append 5 1 1 r s_1 [b] w fun (r : Sl) (w : World) => I r (wr IntKind.i64 (n + 1)) w ∧ M r (wr IntKind.i64 (n + 1)) w < M s n w1) →
                                J w1_1) →
                            Br (decide (n_1 < 2)) (∀ (w1_1 : World), Upd [] [b] w1 w1_1 → R (SV.tuple [SV.slice { ptr := none, len := 0, cap := 0 }, SV.int IntKind.i64 97]) w1_1)
                              (Br (decide (n_1 > 255))
                                (∀ (w1_1 : World), Upd [] [b] w1 w1_1 → R (SV.tuple [SV.slice { ptr := none, len := 0, cap := 0 }, SV.int IntKind.i64 97]) w1_1)
                                (Br (decide (wr IntKind.i64 (2 + (↑s_1.2 : Int)) > 40))
                                  (∀ (w1_1 : World), Upd [] [b] w1 w1_1 → R (SV.tuple [SV.slice { ptr := none, len := 0, cap := 0 }, SV.int IntKind.i64 97]) w1_1)
                                  (∀ (w1_1 : World),
                                    Upd [] [b] w1 w1_1 →
                                      Ret Tryd.prog 78 [SV.int IntKind.i64 n_1, SV.int IntKind.i64 (wr IntKind.i64 (2 + (↑s_1.2 : Int)))] w1_1 fun (r : SV) (w1 : World) =>
                                        ∃ (b_1 : Bool),
                                          r = SV.bool b_1 ∧
                                            Keeps [b] w1_1 w1 ∧
                                              Br (!b_1) (R (SV.tuple [SV.slice { ptr := none, len := 0, cap := 0 }, SV.int IntKind.i64 97]) w1)
                                                (Br (decide (wr IntKind.i64 ((↑s.2 : Int) + wr IntKind.i64 (2 + (↑s_1.2 : Int))) > 40))
                                                  (R (SV.tuple [SV.slice { ptr := none, len := 0, cap := 0 }, SV.int IntKind.i64 97]) w1)
                                                  (some (SV.box b 60 (SV.struct [SV.int IntKind.i64 n_1, SV.slice s_1])) =
                                                      some (SV.box b 60 (SV.struct [SV.int IntKind.i64 n_1, SV.slice s_1])) ∧
                                                    J w1)))))))
              (∃ (I : Sl → World → Prop),
                ∃ (M : Sl → World → Nat),
                  I s w1 ∧
                    ∀ (s : Sl) (w1 : World),
                      I s w1 →
                        Br (decide (Int.tmod (↑s.2 : Int) 4 > 0))
                          (∀ (b : Nat) (w1_1 : World),
                            Upd [] [b] w1 w1_1 →
                              (World.heap w1_1)[b]? = some (Obj.cells { toList := SV.cells (SV.struct [SV.int IntKind.u8 0]) } 5) →
                                Vc.Append 5 1 1 s { ptr := some { block := b, off := 0 }, len := 1, cap := 1 } [] w1_1 fun (r : Sl) (w : World) => I r w ∧ M r w < M s w1)
                          (R (SV.tuple [SV.slice s, SV.int IntKind.i64 0]) w1))
theorem f39_of (l : Sl) (w : World) (R : SV → World → Prop) (h : vc39 l w R) : Ret Tryd.prog 39 [.slice l] w R :=
  have e : vc39 l w R = fnVC X Tryd.f39 a39 [.slice l] w R := by kernel_rfl
  fnVC_sound X_ok (n := a39) (e ▸ h) (by kernel_rfl) (by kernel_rfl) rfl rfl

def vc91 (l : Sl) (w : World) (R : SV → World → Prop) : Prop :=
  ∃ (I : Sl → Int → World → Prop),
    ∃ (M : Sl → Int → World → Nat),
      I { ptr := none, len := 0, cap := 0 } 0 w ∧
        ∀ (s : Sl) (n : Int) (w1 : World),
          I s n w1 →
            Br (decide (n < (↑l.2 : Int)))
              (∀ (J : Sl → World → Prop),
                (∀ (s_1 : Sl) (w1_1 : World), I s_1 (wr IntKind.i64 (n + 1)) w1_1 ∧ M s_1 (wr IntKind.i64 (n + 1)) w1_1 < M s n w1 → J s_1 w1_1) →
                  Need (decide (0 ≤ n) && decide (n < (↑l.2 : Int)) && Option.isSome l.1)
                    (∃ (s_1 : Sl),
                      World.cell? w1 (Addr.add (Sl.at l 2 (Int.toNat n)) 1) = some (Sl.val s_1) ∧
                        ∀ (J_1 : World → Prop),
                          (∀ (w1 : World),
                              Need (decide (0 ≤ n) && decide (n < (↑l.2 : Int)) && Option.isSome l.1)
                                  (∃ (n_1 : Int),
                                    World.cell? w1 (Sl.at l 2 (Int.toNat n)) = some (Value.int IntKind.i64 n_1) ∧
                                      ∀ (b : Nat) (w1_1 : World),
                                        Upd [] [b] w1 w1_1 →
                                          (World.heap w1_1)[b]? =
                                              some
                                                (Obj.cells
                                                  {
                                                    toList :=
                                                      SV.cells
                                                        (SV.struct [SV.int IntKind.u8 (wr IntKind.u8 n_1), SV.int IntKind.u8 (wr IntKind.u8 (wr IntKind.i64 ((↑s_1.2 : Int) + 2)))]) }
                                                  5) →
                                            Vc.Append 5 1 1 s { ptr := some { block := b, off := 0 }, len := 2, cap := 2 } [] w1_1 fun (r : Sl) (w : World) =>
                                              Need (decide (0 ≤ n) && decide (n < (↑l.2 : Int)) && Option.isSome l.1)
                                                (∃ (s : Sl),
                                                  World.cell? w (Addr.add (Sl.at l 2 (Int.toNat n)) 1) = some (Sl.val s) ∧
                                                    Vc.Append 5 1 1 r s [] w fun (r : Sl) (w : World) => J r w)) →
                                J_1 w1) →
                            Need (decide (0 ≤ n) && decide (n < (↑l.2 : Int)) && Option.isSome l.1)
                              (∃ (n_1 : Int),
                                World.cell? w1 (Sl.at l 2 (Int.toNat n)) = some (Value.int IntKind.i64 n_1) ∧
                                  Br (decide (n_1 < 2)) (R (SV.tuple [SV.slice { ptr := none, len := 0, cap := 0 }, SV.int IntKind.i64 65]) w1)
                                    (Need (decide (0 ≤ n) && decide (n < (↑l.2 : Int)) && Option.isSome l.1)
                                      (∃ (n_2 : Int),
                                        World.cell? w1 (Sl.at l 2 (Int.toNat n)) = some (Value.int IntKind.i64 n_2) ∧
                                          Br (decide (n_2 > 255)) (R (SV.tuple [SV.slice { ptr := none, len := 0, cap := 0 }, SV.int IntKind.i64 65]) w1)
                                            (Br (decide ((↑s_1.2 : Int) > 38)) (R (SV.tuple [SV.slice { ptr := none, len := 0, cap := 0 }, SV.int IntKind.i64 65]) w1) (J_1 w1)))))))
              (∃ (I : Sl → World → Prop),
                ∃ (M : Sl → World → Nat),
                  I s w1 ∧
                    ∀ (s : Sl) (w1 : World),
                      I s w1 →
                        Br (Int.tmod (↑s.2 : Int) 4 != 0)
                          (∀ (b : Nat) (w1_1 : World),
                            Upd [] [b] w1 w1_1 →
                              (World.heap w1_1)[b]? = some (Obj.cells { toList := SV.cells (SV.struct [SV.int IntKind.u8 0]) } 5) →
                                Vc.Append 5 1 1 s { ptr := some { block := b, off := 0 }, len := 1, cap := 1 } [] w1_1 fun (r : Sl) (w : World) => I r w ∧ M r w < M s w1)
                          (Br (decide ((↑s.2 : Int) > 40)) (R (SV.tuple [SV.slice { ptr := none, len := 0, cap := 0 }, SV.int IntKind.i64 65]) w1)
                            (R (SV.tuple [SV.slice s, SV.int IntKind.i64 0]) w1)))
theorem f91_of (l : Sl) (w : World) (R : SV → World → Prop) (h : vc91 l w R) : Ret Tryd.prog 91 [.slice l] w R :=
  have e : vc91 l w R = fnVC X Tryd.f91 a91 [.slice l] w R := by kernel_rfl
  fnVC_sound X_ok (n := a91) (e ▸ h) (by kernel_rfl) (by kernel_rfl) rfl rfl

def vc56 (l : Sl) (w : World) (R : SV → World → Prop) : Prop :=
  ∃ (I : Int → World → Prop),
    ∃ (M : Int → World → Nat),
      I 0 w ∧
        ∀ (n : Int) (w1 : World),
          I n w1 →
            Br (decide (n < (↑l.2 : Int)))
              (Need (decide (0 ≤ n) && decide (n < (↑l.2 : Int)) && Option.isSome l.1)
                (∃ (n_1 : Int),
                  World.cell? w1 (Sl.at l 2 (Int.toNat n)) = some (Value.int IntKind.i64 n_1) ∧
                    Need (decide (0 ≤ n) && decide (n < (↑l.2 : Int)) && Option.isSome l.1)
                      (∃ (s : Sl),
                        World.cell? w1 (Addr.add (Sl.at l 2 (Int.toNat n)) 1) = some (Sl.val s) ∧
                          ∀ (w1_1 : World),
                            Upd [] [] w1 w1_1 →
                              Ret Tryd.prog 86 [SV.int IntKind.i64 n_1, SV.int IntKind.i64 (wr IntKind.i64 ((↑s.2 : Int) + 2))] w1_1 fun (r : SV) (w1_2 : World) =>
                                ∃ (b : Bool),
                                  r = SV.bool b ∧
                                    Br (!b) (R (SV.tuple [SV.slice { ptr := none, len := 0, cap := 0 }, SV.int IntKind.i64 97]) w1_2)
                                      (I (wr IntKind.i64 (n + 1)) w1_2 ∧ M (wr IntKind.i64 (n + 1)) w1_2 < M n w1))))
              (Ret Tryd.prog 91 [SV.slice l] w1 fun (r : SV) (w1 : World) =>
                ∃ (s : Sl),
                  ∃ (n : Int),
                    r = SV.tuple [SV.slice s, SV.int IntKind.i64 n] ∧
                      Br (n != 0) (R (SV.tuple [SV.slice { ptr := none, len := 0, cap := 0 }, SV.int IntKind.i64 97]) w1) (R (SV.tuple [SV.slice s, SV.int IntKind.i64 0]) w1))
theorem f56_of (l : Sl) (w : World) (R : SV → World → Prop) (h : vc56 l w R) : Ret Tryd.prog 56 [.slice l] w R :=
  have e : vc56 l w R = fnVC X Tryd.f56 a56 [.slice l] w R := by kernel_rfl
  fnVC_sound X_ok (n := a56) (e ▸ h) (by kernel_rfl) (by kernel_rfl) rfl rfl

def vc33 (b : Sl) (w : World) (R : SV → World → Prop) : Prop :=
  Br (decide ((↑b.2 : Int) > 40)) (R (SV.tuple [SV.slice { ptr := none, len := 0, cap := 0 }, SV.int IntKind.i64 97]) w)
    (∀ (J : Sl → World → Prop),
      (∀ (s : Sl) (w1 : World), R (SV.tuple [SV.slice s, SV.int IntKind.i64 0]) w1 → J s w1) →
        ∃ (I : Sl → Int → World → Prop),
          ∃ (M : Sl → Int → World → Nat),
            I { ptr := none, len := 0, cap := 0 } 0 w ∧
              ∀ (s : Sl) (n : Int) (w1 : World),
                I s n w1 →
                  Br (decide (n < (↑b.2 : Int)))
                    (Need (decide (0 ≤ n) && decide (n < (↑b.2 : Int)) && Option.isSome b.1)
                      (∃ (n_1 : Int),
                        World.cell? w1 (Sl.at b 1 (Int.toNat n)) = some (Value.int IntKind.u8 n_1) ∧
                          Br (wr IntKind.i64 n_1 == 0) (J s w1)
                            (Br (wr IntKind.i64 n_1 == 1) (I s (wr IntKind.i64 (n + 1)) w1 ∧ M s (wr IntKind.i64 (n + 1)) w1 < M s n w1)
                              (Br (wr IntKind.i64 (n + 1) == (↑b.2 : Int)) (R (SV.tuple [SV.slice { ptr := none, len := 0, cap := 0 }, SV.int IntKind.i64 97]) w1)
                                (Need (decide (0 ≤ wr IntKind.i64 (n + 1)) && decide (wr IntKind.i64 (n + 1) < (↑b.2 : Int)) && Option.isSome b.1)
                                  (∃ (n_2 : Int),
                                    World.cell? w1 (Sl.at b 1 (Int.toNat (wr IntKind.i64 (n + 1)))) = some (Value.int IntKind.u8 n_2) ∧
                                      ∀ (J : World → Prop),
                                        (∀ (w1_1 : World),
                                            Need
                                                (decide (0 ≤ wr IntKind.i64 (n + wr IntKind.i64 n_2)) && decide (wr IntKind.i64 (n + wr IntKind.i64 n_2) ≤ (↑b.3 : Int)) &&
                                                    (decide (0 ≤ wr IntKind.i64 (n + wr IntKind.i64 n_2)) &&
                                                      decide (wr IntKind.i64 (n + wr IntKind.i64 n_2) ≤ (↑(Int.toNat (wr IntKind.i64 (n + wr IntKind.i64 n_2))) : Int))) &&
                                                  (decide (0 ≤ wr IntKind.i64 (n + 2)) &&
                                                    decide (wr IntKind.i64 (n + 2) ≤ (↑(Int.toNat (wr IntKind.i64 (n + wr IntKind.i64 n_2))) : Int))))
                                                (∀ (b_1 : Nat) (w1_2 : World),
                                                  Upd [] [b_1] w1_1 w1_2 →
                                                    (World.heap w1_2)[b_1]? =
                                                        some
                                                          (Obj.cells
                                                            {
                                                              toList :=
                                                                SV.cells
                                                                  (SV.struct
                                                                    [SV.struct
                                                                        [SV.int IntKind.i64 (wr IntKind.i64 n_1),
                                                                          SV.slice
                                                                            (Sl.sub b 1 (Int.toNat (wr IntKind.i64 (n + 2))) (Int.toNat (wr IntKind.i64 (n + wr IntKind.i64 n_2)))
                                                                              (Int.toNat (wr IntKind.i64 (n + wr IntKind.i64 n_2))))]]) }
                                                            60) →
                                                      Vc.Append 60 2 32 s { ptr := some { block := b_1, off := 0 }, len := 1, cap := 1 } [] w1_2 fun (r : Sl) (w : World) =>
                                                        I r (wr IntKind.i64 (n + wr IntKind.i64 n_2)) w ∧ M r (wr IntKind.i64 (n + wr IntKind.i64 n_2)) w < M s n w1) →
                                              J w1_1) →
                                          Br (decide (wr IntKind.i64 n_2 < 2)) (R (SV.tuple [SV.slice { ptr := none, len := 0, cap := 0 }, SV.int IntKind.i64 97]) w1)
                                            (Br (decide (wr IntKind.i64 (n + wr IntKind.i64 n_2) > (↑b.2 : Int)))
                                              (R (SV.tuple [SV.slice { ptr := none, len := 0, cap := 0 }, SV.int IntKind.i64 97]) w1)
                                              (Ret Tryd.prog 78 [SV.int IntKind.i64 (wr IntKind.i64 n_1), SV.int IntKind.i64 (wr IntKind.i64 n_2)] w1 fun (r : SV) (w1 : World) =>
                                                ∃ (b : Bool),
                                                  r = SV.bool b ∧ Br (!b) (R (SV.tuple [SV.slice { ptr := none, len := 0, cap := 0 }, SV.int IntKind.i64 97]) w1) (J w1)))))))))
                    (J s w1))
theorem f33_of (b : Sl) (w : World) (R : SV → World → Prop) (h : vc33 b w R) : Ret Tryd.prog 33 [.slice b] w R :=
  have e : vc33 b w R = fnVC X Tryd.f33 a33 [.slice b] w R := by kernel_rfl
  fnVC_sound X_ok (n := a33) (e ▸ h) (by kernel_rfl) (by kernel_rfl) rfl rfl

end Go.Vc.S9
end

section
namespace Go.Vc
set_option linter.unusedVariables false
set_option linter.unusedSimpArgs false
set_option autoImplicit false

/-! ### bits of bytes -/
theorem par2 (y : Int) (n : Nat) : y % 2 ^ (n + 1) = y / 2 % 2 ^ n * 2 + y % 2 := by
  have hp : (2 : Int) ^ (n + 1) = 2 * 2 ^ n := by rw [Int.pow_succ, Int.mul_comm]
  have h0 : (0 : Int) < 2 ^ n := Int.pow_pos (by decide)
  have e1 : y = y / 2 * 2 + y % 2 := by omega
  have e2 : y / 2 = 2 ^ n * (y / 2 / 2 ^ n) + y / 2 % 2 ^ n := by have := Int.mul_ediv_add_emod (y / 2) (2 ^ n); omega
  have h1 := Int.emod_nonneg (y / 2) (Int.ne_of_gt h0)
  have h2 := Int.emod_lt_of_pos (y / 2) h0
  have e3 : y = 2 ^ (n + 1) * (y / 2 / 2 ^ n) + (y / 2 % 2 ^ n * 2 + y % 2) := by
    rw [hp, Int.mul_assoc]
    have : 2 * (2 ^ n * (y / 2 / 2 ^ n)) = 2 * (y / 2) - 2 * (y / 2 % 2 ^ n) := by omega
    omega
  have h3 : 0 ≤ y / 2 % 2 ^ n * 2 + y % 2 ∧ y / 2 % 2 ^ n * 2 + y % 2 < 2 ^ (n + 1) := by omega
  calc y % 2 ^ (n + 1) = (2 ^ (n + 1) * (y / 2 / 2 ^ n) + (y / 2 % 2 ^ n * 2 + y % 2)) % 2 ^ (n + 1) := by rw [← e3]
    _ = (y / 2 % 2 ^ n * 2 + y % 2) % 2 ^ (n + 1) := by rw [Int.add_comm, Int.add_mul_emod_self_left]
    _ = _ := Int.emod_eq_of_lt h3.1 h3.2

def bitAt (l : List Int) (j : Nat) : Int := bt l ((j / 8 : Nat) : Int) / 2 ^ (7 - j % 8) % 2
/-- n bits from o on, as a number -/
def bitsN (l : List Int) (o : Nat) : Nat → Int
  | 0 => 0
  | n + 1 => bitsN l o n * 2 + bitAt l (o + n)
theorem bitAt_r (l : List Int) (j : Nat) : 0 ≤ bitAt l j ∧ bitAt l j ≤ 1 := by unfold bitAt; omega
theorem bitsN_r (l : List Int) (o : Nat) : ∀ n, 0 ≤ bitsN l o n ∧ bitsN l o n < 2 ^ n
  | 0 => by simp [bitsN]
  | n + 1 => by
    have := bitsN_r l o n
    have := bitAt_r l (o + n)
    rw [Int.pow_succ]
    unfold bitsN
    omega
theorem bitsN_add (l : List Int) (o n : Nat) : ∀ m, bitsN l o (n + m) = bitsN l o n * 2 ^ m + bitsN l (o + n) m
  | 0 => by simp [bitsN]
  | m + 1 => by
    rw [← Nat.add_assoc, bitsN, bitsN_add l o n m, bitsN, Int.pow_succ, Nat.add_assoc, Int.add_mul, Int.mul_assoc]
    omega
/-- bits within one byte -/
theorem bitsN_in (l : List Int) (o q r : Nat) (ho : o = 8 * q + r) : ∀ n, r + n ≤ 8 → bitsN l o n = bt l (q : Int) / 2 ^ (8 - r - n) % 2 ^ n
  | 0, _ => by simp only [bitsN]; omega
  | n + 1, h => by
    subst ho
    have ih := bitsN_in l _ q r rfl n (by omega)
    have e1 : (8 * q + r + n) / 8 = q := by omega
    have e2 : 7 - (8 * q + r + n) % 8 = 8 - r - (n + 1) := by omega
    rw [bitsN, ih, bitAt, e1, e2, par2]
    have e3 : bt l (q : Int) / 2 ^ (8 - r - (n + 1)) / 2 = bt l (q : Int) / 2 ^ (8 - r - n) := by
      rw [show 8 - r - n = (8 - r - (n + 1)) + 1 by omega, Int.pow_succ]
      rw [Int.ediv_ediv_of_nonneg (by exact Int.le_of_lt (Int.pow_pos (by decide)))]
    rw [e3]
theorem bitsN_byte {l : List Int} (hb : Byt l) (q : Nat) : bitsN l (8 * q) 8 = bt l (q : Int) := by
  have := bitsN_in l (8 * q) q 0 (by omega) 8 (by omega)
  have := hb.bt (q : Int)
  simp at *
  omega
theorem bitsN_two {l : List Int} (hb : Byt l) (q : Nat) : bitsN l (8 * q) 16 = bt l (q : Int) * 256 + bt l ((q + 1 : Nat) : Int) := by
  have := bitsN_add l (8 * q) 8 8
  rw [bitsN_byte hb, show 8 * q + 8 = 8 * (q + 1) by omega, bitsN_byte hb] at this
  simpa using this
theorem bitsN_four {l : List Int} (hb : Byt l) (q : Nat) : bitsN l (8 * q) 32 = ((bt l (q : Int) * 256 + bt l ((q + 1 : Nat) : Int)) * 256 + bt l ((q + 2 : Nat) : Int)) * 256 + bt l ((q + 3 : Nat) : Int) := by
  have := bitsN_add l (8 * q) 16 16
  rw [bitsN_two hb, show 8 * q + 16 = 8 * (q + 2) by omega, bitsN_two hb] at this
  have e : ((q + 2 + 1 : Nat) : Int) = ((q + 3 : Nat) : Int) := rfl
  rw [show (2 : Int) ^ 16 = 65536 from rfl] at this
  show bitsN l (8 * q) (16 + 16) = _
  rw [this, e]
  omega

/-- the widths' sum -/
def wsum : List Int → Nat
  | [] => 0
  | w :: r => w.toNat + wsum r
theorem wsum_app : ∀ (a b : List Int), wsum (a ++ b) = wsum a + wsum b
  | [], b => by simp [wsum]
  | x :: a, b => by simp [wsum, wsum_app a b]; omega
theorem wsum_take_succ {l : List Int} {k : Nat} (h : k < l.length) : wsum (l.take (k + 1)) = wsum (l.take k) + (l[k]).toNat := by
  rw [take_snoc h, wsum_app]; simp [wsum]
theorem wsum_take_le (l : List Int) (k : Nat) : wsum (l.take k) ≤ wsum l := by
  have := congrArg wsum (List.take_append_drop k l)
  rw [wsum_app] at this
  omega
/-- the fields of these widths from bit o on -/
def fieldsOf (l : List Int) : Nat → List Int → List Int
  | _, [] => []
  | o, w :: r => bitsN l o w.toNat :: fieldsOf l (o + w.toNat) r
theorem fieldsOf_len (l : List Int) : ∀ (o : Nat) (ws : List Int), (fieldsOf l o ws).length = ws.length
  | _, [] => rfl
  | o, w :: r => by simp [fieldsOf, fieldsOf_len l _ r]
theorem fieldsOf_app (l : List Int) : ∀ (a b : List Int) (o : Nat), fieldsOf l o (a ++ b) = fieldsOf l o a ++ fieldsOf l (o + wsum a) b
  | [], b, o => by simp [fieldsOf, wsum]
  | x :: a, b, o => by simp [fieldsOf, wsum, fieldsOf_app l a b, Nat.add_assoc]
theorem fieldsOf_snoc (l : List Int) {ws : List Int} {k : Nat} (h : k < ws.length) : fieldsOf l 0 (ws.take (k + 1)) = fieldsOf l 0 (ws.take k) ++ [bitsN l (wsum (ws.take k)) (ws[k]).toNat] := by
  rw [take_snoc h, fieldsOf_app]; simp [fieldsOf]

/-! ### fields put together -/
/-- bit j of the fields that are written -/
def strm : List Int → List Int → Nat → Int
  | w :: ws, v :: vs, j => if j < w.toNat then v / 2 ^ (w.toNat - 1 - j) % 2 else strm ws vs (j - w.toNat)
  | _, _, _ => 0
theorem strm_r : ∀ (ws vs : List Int) (j : Nat), 0 ≤ strm ws vs j ∧ strm ws vs j ≤ 1
  | [], _, _ => by simp [strm]
  | _ :: _, [], _ => by simp [strm]
  | w :: ws, v :: vs, j => by
    unfold strm
    split
    · omega
    · exact strm_r ws vs _
theorem strm_at : ∀ (ws vs : List Int) (i m : Nat) (h : i < ws.length) (h2 : i < vs.length), m < (ws[i]).toNat → strm ws vs (wsum (ws.take i) + m) = vs[i] / 2 ^ ((ws[i]).toNat - 1 - m) % 2
  | w :: ws, v :: vs, 0, m, _, _, hm => by
    simp at hm
    simp [strm, wsum]
    intro h; omega
  | w :: ws, v :: vs, i + 1, m, h, h2, hm => by
    have := strm_at ws vs i m (by simpa using h) (by simpa using h2) (by simpa using hm)
    simp only [List.take_succ_cons, wsum, strm]
    rw [if_neg (by omega), show w.toNat + wsum (List.take i ws) + m - w.toNat = wsum (ws.take i) + m by omega, this]
    simp
/-- byte i, of which t bits are written -/
def byteT (S : Nat → Int) (t i : Nat) : Int :=
  let g := fun k : Nat => if 8 * i + k < t then S (8 * i + k) else 0
  g 0 * 128 + g 1 * 64 + g 2 * 32 + g 3 * 16 + g 4 * 8 + g 5 * 4 + g 6 * 2 + g 7
def bytesT (S : Nat → Int) (n t : Nat) : List Int := (List.range n).map (byteT S t)
theorem bytesT_len (S : Nat → Int) (n t : Nat) : (bytesT S n t).length = n := by simp [bytesT]
theorem byteT_r {S : Nat → Int} (hS : ∀ j, 0 ≤ S j ∧ S j ≤ 1) (t i : Nat) : 0 ≤ byteT S t i ∧ byteT S t i < 256 := by
  have g : ∀ k : Nat, 0 ≤ (if 8 * i + k < t then S (8 * i + k) else 0) ∧ (if 8 * i + k < t then S (8 * i + k) else 0) ≤ 1 := fun k => by
    split
    · exact hS _
    · omega
  have := g 0; have := g 1; have := g 2; have := g 3; have := g 4; have := g 5; have := g 6; have := g 7
  simp only [byteT]
  omega
theorem bytesT_zero (S : Nat → Int) (n : Nat) : bytesT S n 0 = List.replicate n 0 := by
  refine List.ext_getElem (by simp [bytesT]) fun i h1 h2 => ?_
  simp [bytesT, byteT]
/-- one more bit -/
theorem byteT_step {S : Nat → Int} (hS : ∀ j, 0 ≤ S j ∧ S j ≤ 1) (t : Nat) : byteT S (t + 1) (t / 8) = byteT S t (t / 8) + S t * 2 ^ (7 - t % 8) ∧ byteT S t (t / 8) % 2 ^ (8 - t % 8) = 0 := by
  obtain ⟨q, r, hr, rfl⟩ : ∃ q r, r < 8 ∧ t = 8 * q + r := ⟨t / 8, t % 8, by omega, by omega⟩
  have e1 : (8 * q + r) / 8 = q := by omega
  have e2 : (8 * q + r) % 8 = r := by omega
  rw [e1, e2]
  have d : ∀ a b : Nat, (8 * q + a < 8 * q + b) = (a < b) := fun a b => by apply propext; omega
  have d2 : ∀ a b : Nat, (8 * q + a < 8 * q + b + 1) = (a < b + 1) := fun a b => by apply propext; omega
  simp only [byteT, d, d2]
  rcases (by omega : r = 0 ∨ r = 1 ∨ r = 2 ∨ r = 3 ∨ r = 4 ∨ r = 5 ∨ r = 6 ∨ r = 7) with rfl | rfl | rfl | rfl | rfl | rfl | rfl | rfl <;> simp <;> omega
theorem byteT_off (S : Nat → Int) (t i : Nat) (h : i ≠ t / 8) : byteT S (t + 1) i = byteT S t i := by
  have d : ∀ k : Nat, k < 8 → ((8 * i + k < t + 1) = (8 * i + k < t)) := fun k hk => by apply propext; omega
  simp only [byteT, d 0 (by omega), d 1 (by omega), d 2 (by omega), d 3 (by omega), d 4 (by omega), d 5 (by omega), d 6 (by omega), d 7 (by omega)]
theorem bytesT_set {S : Nat → Int} (hS : ∀ j, 0 ≤ S j ∧ S j ≤ 1) (n t : Nat) : (bytesT S n t).set (t / 8) (byteT S t (t / 8) + S t * 2 ^ (7 - t % 8)) = bytesT S n (t + 1) := by
  refine List.ext_getElem (by simp [bytesT]) fun i h1 h2 => ?_
  rw [List.getElem_set]
  split
  · rename_i h
    subst h
    simp only [bytesT, List.getElem_map, List.getElem_range]
    exact (byteT_step hS t).1.symm
  · rename_i h
    simp only [bytesT, List.getElem_map, List.getElem_range]
    exact (byteT_off S t i (fun e => h e.symm)).symm
/-- the fields' bytes -/
def packB (ws vs : List Int) (n : Nat) : List Int := bytesT (strm ws vs) n (8 * n)
end Go.Vc
end

section
namespace Go.Vc
set_option linter.unusedVariables false
set_option linter.unusedSimpArgs false
set_option autoImplicit false

/-! ### boxes: slices of one element -/
abbrev bxS (b : Nat) : Sl := ⟨some ⟨b, 0, none⟩, 1, 1⟩
section
variable {α : Type} {c : Cod α} {w w1 : World} {b N : Nat} {x y : α}
structure Box (c : Cod α) (w : World) (b : Nat) (x : α) : Prop where
  sees : Sees c w (bxS b) [x]
  own : Own 0 c.sz w (bxS b)
theorem Box.mk' {e : Nat} {cs : List Value} (h : w.heap[b]? = some (.cells cs.toArray e (0, 0))) (hc : cs = c.enc x) : Box c w b x :=
  ⟨sees_row h [x] (by rw [hc]; simp [Cod.cells]) rfl, own_row h (Nat.zero_le _) (by rw [hc, c.len, Nat.one_mul]) (Nat.le_refl _)⟩
theorem Box.upd {m n : List Nat} (h : Box c w b x) (u : Upd m n w w1) (hm : b ∉ m) : Box c w1 b x := ⟨h.sees.upd u (by simpa [Sl.blk] using hm), h.own.upd u (by simpa [Sl.blk] using hm)⟩
theorem Box.old {n : List Nat} (h : Box c w b x) (u : Upd [] n w w1) : Box c w1 b x := h.upd u (by simp)
theorem Box.lt (h : Box c w b x) : b < w.heap.size := (h.own.blk b (by simp [Sl.blk])).2
theorem Box.at_ : (bxS b).at c.sz 0 = ⟨b, 0, none⟩ := by simp [Sl.at]
theorem Box.get (h : Box c w b x) (j : Nat) (hj : j < (c.enc x).length) : w.cell? ((⟨b, 0, none⟩ : Addr).add j) = some (c.enc x)[j] := by
  have := h.sees.elem (i := 0) (by simp) j (by simpa using hj)
  rw [Box.at_] at this
  simpa using this
theorem Box.set {bs : List Nat} {vs : List Value} {F : World → Prop} (h : Box c w b x) (hz : 0 < c.sz) (hv : vs = c.enc y) (hbs : b ∉ bs) (k : ∀ w1, Box c w1 b y → Upd [b] [] w w1 → F w1) : Store w ⟨b, 0, none⟩ vs bs F := by
  have := own_set (i := 0) (x := y) (vs := vs) (bs := bs) (F := F) h.sees h.own hz (by simp) hv (by simpa [Sl.blk] using hbs) fun w1 h1 o1 u1 => k w1 ⟨by simpa using h1, o1⟩ (by simpa [Sl.blk] using u1)
  rwa [Box.at_] at this
end
theorem Box.sl {w : World} {b : Nat} {s : Sl} (h : Box cSl w b s) : w.cell? ⟨b, 0, none⟩ = some s.val := by
  have := h.get 0 (by simp [cSl])
  rwa [add_zero] at this
theorem Box.i64 {w : World} {b : Nat} {n : Int} (h : Box cI64 w b n) : w.cell? ⟨b, 0, none⟩ = some (.int .i64 n) := by
  have := h.get 0 (by simp [cI64])
  rwa [add_zero] at this
theorem intAt {w : World} {s : Sl} {l : List Int} (h : Sees cI64 w s l) (i : Nat) (hi : i < l.length) : w.cell? (s.at 1 i) = some (.int .i64 l[i]) := by
  have := h.elem (i := i) hi 0 (by simp [cI64])
  rwa [add_zero] at this
theorem needI {X : Prop} {w : World} {s : Sl} {l : List Int} (h : Sees cI64 w s l) {i : Int} (h0 : 0 ≤ i) (h1 : i < l.length) (x : X) : Need (decide (0 ≤ i) && decide (i < (s.len : Int)) && s.ptr.isSome) X :=
  needIx h0 (by rw [h.len]; exact h1) (h.isSome (by decide) (by omega)) x
/-! ### one bit more -/
theorem u64_id {n : Int} (h : 0 ≤ n) (h1 : n < 64) : wr .u64 n = n := wr_u64 h (by omega)
theorem bit_of {x : Int} {t : Nat} (hx : 0 ≤ x ∧ x < 256) : wr .i64 (iand .u8 (gshr .u8 x (wr .u64 (7 - wr .u64 (Int.tmod (t : Int) 8)))) 1) = x / 2 ^ (7 - t % 8) % 2 := by
  rw [tmod_pos (by omega), u64_id (n := (t : Int) % 8) (by omega) (by omega), u64_id (by omega) (by omega)]
  have e1 : gshr .u8 x (7 - (t : Int) % 8) = x / 2 ^ (7 - t % 8) := by
    unfold gshr
    rw [Int.fdiv_eq_ediv_of_nonneg _ (Int.le_of_lt (Int.pow_pos (by decide)))]
    congr 2
    simp only [IntKind.bits]
    omega
  have h1 : 0 ≤ x / 2 ^ (7 - t % 8) := Int.ediv_nonneg hx.1 (Int.le_of_lt (Int.pow_pos (by decide)))
  have h2 : x / 2 ^ (7 - t % 8) ≤ x := Int.ediv_le_self _ hx.1
  rw [e1, iand_u8 h1 (by omega) (by omega) (by omega)]
  have e2 : ((x / 2 ^ (7 - t % 8)).toNat &&& (1 : Int).toNat : Nat) = (x / 2 ^ (7 - t % 8)).toNat % 2 := Nat.and_one_is_mod _
  rw [e2, wr_i64 (by omega) (by omega)]
  omega
theorem bit_step {x v : Int} {t : Nat} (hx : 0 ≤ x ∧ x < 256) (hv : 0 ≤ v ∧ v < 4294967296) :
    ior .i64 (gshl .i64 v 1) (wr .i64 (iand .u8 (gshr .u8 x (wr .u64 (7 - wr .u64 (Int.tmod (t : Int) 8)))) 1)) = v * 2 + x / 2 ^ (7 - t % 8) % 2 := by
  rw [bit_of hx, gshl_i64 _ _ (by omega)]
  rw [show (2 : Int) ^ (1 : Int).toNat = 2 from rfl, wr_i64 (by omega) (by omega)]
  have : 0 ≤ x / 2 ^ (7 - t % 8) % 2 ∧ x / 2 ^ (7 - t % 8) % 2 < 2 := by omega
  rw [ior_add 1 (by omega) (by omega) (by omega) (by omega) (by omega) (by omega)]
theorem wsum_le {l : List Int} {m : Nat} (h : ∀ x ∈ l, x ≤ m) : wsum l ≤ m * l.length := by
  induction l with
  | nil => simp [wsum]
  | cons x l ih =>
    have := h x (by simp)
    have := ih fun y hy => h y (by simp [hy])
    simp only [wsum, List.length_cons, Nat.mul_add]
    omega
/-- a bit is laid in -/
theorem bit_put {x v : Int} {t : Nat} (hx : 0 ≤ x ∧ x < 256) (hd : x % 2 ^ (8 - t % 8) = 0) {m : Nat} (hm : m < 63) :
    ior .u8 x (gshl .u8 (wr .u8 (iand .i64 (gshr .i64 v (wr .u64 (m : Int))) 1)) (wr .u64 (7 - wr .u64 (Int.tmod (t : Int) 8)))) = x + v / 2 ^ m % 2 * 2 ^ (7 - t % 8) := by
  rw [tmod_pos (by omega), u64_id (n := (t : Int) % 8) (by omega) (by omega), u64_id (n := (m : Int)) (by omega) (by omega), u64_id (n := 7 - (t : Int) % 8) (by omega) (by omega), and_1]
  have e1 : gshr .i64 v (m : Int) = v / 2 ^ m := by
    rw [gshr_i64 _ _ (by omega), Int.fdiv_eq_ediv_of_nonneg _ (Int.le_of_lt (Int.pow_pos (by decide))), Int.toNat_natCast]
  rw [e1]
  have hb : 0 ≤ v / 2 ^ m % 2 ∧ v / 2 ^ m % 2 < 2 := by omega
  generalize v / 2 ^ m % 2 = y at *
  have e2 : wr .u8 y = y := by rw [wr_u8]; omega
  rw [e2]
  have e3 : gshl .u8 y (7 - (t : Int) % 8) = y * 2 ^ (7 - t % 8) := by
    unfold gshl
    have : min (7 - (t : Int) % 8).toNat (IntKind.u8).bits = 7 - t % 8 := by simp only [IntKind.bits]; omega
    rw [this]
    have hr : t % 8 < 8 := by omega
    have : 0 ≤ y * 2 ^ (7 - t % 8) ∧ y * 2 ^ (7 - t % 8) < 256 := by
      generalize t % 8 = r at hr
      rcases (by omega : r = 0 ∨ r = 1 ∨ r = 2 ∨ r = 3 ∨ r = 4 ∨ r = 5 ∨ r = 6 ∨ r = 7) with rfl | rfl | rfl | rfl | rfl | rfl | rfl | rfl <;> simp <;> omega
    have h2 := wr_u8 (y * 2 ^ (7 - t % 8))
    unfold wr at h2
    rw [h2]; omega
  rw [e3]
  have hr : t % 8 < 8 := by omega
  generalize t % 8 = r at *
  have fin : ∀ a b : Int, ∀ k : Nat, k < 8 → 0 ≤ a → a < 256 → a % 2 ^ (k + 1) = 0 → (b = 0 ∨ b = 2 ^ k) → ior .u8 a b = a + b := by
    intro a b k hk ha ha1 hm hb
    have key : ∀ a : Fin 256, ∀ k : Fin 8, a.val % 2 ^ (k.val + 1) = 0 → (a.val ||| 2 ^ k.val) = a.val + 2 ^ k.val := by decide +kernel
    have hp : (2 : Int) ^ k = ((2 ^ k : Nat) : Int) := by push_cast; rfl
    have hlt : (2 : Nat) ^ k < 256 := Nat.lt_of_lt_of_le (Nat.pow_lt_pow_right (by omega) hk) (by decide)
    rcases hb with rfl | rfl
    · rw [ior_u8 ha ha1 (by omega) (by omega)]
      simp; omega
    · rw [hp, ior_u8 ha ha1 (by omega) (by omega)]
      have := key ⟨a.toNat, by omega⟩ ⟨k, hk⟩ (by
        simp only
        have : ((a.toNat % 2 ^ (k + 1) : Nat) : Int) = 0 := by push_cast; rw [Int.toNat_of_nonneg ha]; exact hm
        omega)
      simp only at this
      rw [Int.toNat_natCast, this]
      omega
  refine fin x _ (7 - r) (by omega) hx.1 hx.2 (by rw [show 7 - r + 1 = 8 - r by omega]; exact hd) ?_
  rcases (by omega : y = 0 ∨ y = 1) with rfl | rfl
  · left; simp
  · right; simp
end Go.Vc
end

section
namespace Go.Vc
set_option linter.unusedVariables false
set_option linter.unusedSimpArgs false
set_option autoImplicit false
/-- bytes as a string -/
def baOf (l : List Int) : ByteArray := ⟨(l.map fun x => UInt8.ofNat x.toNat).toArray⟩
theorem strOf {w : World} {s : Sl} {l : List Int} {F : ByteArray → Prop} (h : SeesB w s l) (hb : Byt l) (k : F (baOf l)) : BytesStr w s F := by
  refine ⟨(l.map fun (x : Int) => UInt8.ofNat x.toNat), by rw [List.length_map, h.len], fun hn => ?_, fun i hi => ?_, k⟩
  · by_cases hl : 0 < l.length
    · have := h.isSome (by decide) hl
      rw [hn] at this; cases this
    · rw [List.length_eq_zero_iff.1 (show l.length = 0 by omega)]; rfl
  · rw [List.length_map] at hi
    rw [byteC h i hi, bt_nat hi, List.getElem_map]
    have := hb l[i] (List.getElem_mem hi)
    congr 2
    rw [UInt8.toNat_ofNat', Nat.mod_eq_of_lt (by omega)]
    omega
theorem baOf_back {l : List Int} (hb : Byt l) : (baOf l).data.toList.map (fun u => ((u.toNat : Nat) : Int)) = l := by
  simp only [baOf, List.map_map]
  refine (List.map_congr_left fun x hx => ?_).trans (List.map_id l)
  have := hb x hx
  simp only [Function.comp, UInt8.toNat_ofNat', id]
  rw [Nat.mod_eq_of_lt (by omega)]
  omega
theorem baOf_eq {l m : List Int} (hl : Byt l) (hm : Byt m) : (baOf l == baOf m) = decide (l = m) := by
  by_cases h : l = m
  · subst h
    rw [decide_eq_true rfl]
    show (baOf l).data == (baOf l).data
    simp
  · have eb : ∀ a b : ByteArray, (a == b) = (a.data == b.data) := fun a b => by cases a; cases b; rfl
    rw [decide_eq_false h, eb, beq_eq_false_iff_ne]
    intro e
    apply h
    rw [← baOf_back hl, ← baOf_back hm, e]
theorem alike {w : World} {a b : Sl} {la lb : List Int} {R : Bool → Prop} (ha : SeesB w a la) (hb : SeesB w b lb) (ba : Byt la) (bb : Byt lb) (k : R (decide (la = lb))) :
    BytesStr w a fun x => BytesStr w b fun y => R (x == y) := by
  refine strOf ha ba (strOf hb bb ?_)
  rw [baOf_eq ba bb]
  exact k
end Go.Vc
end

section
namespace Go.Vc
set_option linter.unusedVariables false
set_option linter.unusedSimpArgs false
set_option autoImplicit false
section
variable {e : Ends} {t : TcV} {l : List Int}
theorem tcChk_ok (h : tcChk t = 0) : (0 ≤ t.sp ∧ t.sp ≤ 65535) ∧ (0 ≤ t.dp ∧ t.dp ≤ 65535) ∧ (0 ≤ t.win ∧ t.win ≤ 65535) ∧ (0 ≤ t.urg ∧ t.urg ≤ 65535) ∧ (0 ≤ t.seq ∧ t.seq ≤ 4294967295) ∧ (0 ≤ t.ack ∧ t.ack ≤ 4294967295) ∧ (0 ≤ t.fl ∧ t.fl ≤ 255) ∧ putOk9 t.opts ∧ thL t + t.data.length ≤ 65535 := by
  unfold tcChk at h
  split at h; · cases h
  split at h; · cases h
  split at h; · cases h
  rename_i h1 h2 h3
  unfold badT outN9 at h1
  exact ⟨by omega, by omega, by omega, by omega, by omega, by omega, by omega, Classical.not_not.1 h2, by unfold thL; omega⟩
theorem tcPE_ok (h : tcPE e t = 0) : e.fit ∧ tcChk t = 0 := by
  unfold tcPE at h
  split at h; · cases h
  rename_i h1
  exact ⟨Classical.not_not.1 h1, h⟩
theorem tcHead_len (t : TcV) (c : Int) : (tcHead t c).length = thL t := by simp [tcHead, thL]; omega
theorem tcSer_len (e : Ends) (t : TcV) : (tcSer e t).length = thL t + t.data.length := by unfold tcSer; rw [List.length_append, tcHead_len]
theorem thL_r (h : putOk9 t.opts) : 20 ≤ thL t ∧ thL t ≤ 60 ∧ thL t % 4 = 0 := by
  have := putO_len h.1
  unfold thL; omega
theorem tcHead_byt (h : tcChk t = 0) (f : TFit t) (c : Int) : Byt (tcHead t c) := by
  obtain ⟨h1, h2, h3, h4, h5, h6, h7, h8, h9⟩ := tcChk_ok h
  have := thL_r h8
  have hp := putO_byt f.opts
  intro x hx
  simp only [tcHead, List.mem_cons] at hx
  rcases hx with rfl | rfl | rfl | rfl | rfl | rfl | rfl | rfl | rfl | rfl | rfl | rfl | rfl | rfl | rfl | rfl | rfl | rfl | rfl | rfl | hx
  all_goals first | omega | exact hp x hx
theorem ws_tcHead (t : TcV) {c : Int} (h0 : 0 ≤ c) (h1 : c ≤ 65535) : ws true (tcHead t c) = ws true (tcHead t 0) + c := by
  simp only [tcHead, ws]
  simp
  omega
theorem tcSer_byt (h : tcChk t = 0) (f : TFit t) : Byt (tcSer e t) := (tcHead_byt h f _).app f.data
theorem tcCk_r (o : e.Ok) (h : tcChk t = 0) (f : TFit t) : 0 ≤ tcCk e t ∧ tcCk e t ≤ 65534 ∧ psum e 6 (tcSer e t) = 65535 := by
  have h8 := (tcChk_ok h).2.2.2.2.2.2.2.1
  have hr := thL_r h8
  have hb : Byt (tcHead t 0 ++ t.data) := (tcHead_byt h f 0).app f.data
  have hpos := psB_pos o (p := 6) (n := ((tcHead t 0 ++ t.data).length : Int)) (by omega) hb
  have h1 := psum_r o (p := 6) hb
  have hz : psum e 6 (tcHead t 0 ++ t.data) ≠ 0 := fun e0 => by
    unfold psum sumOf at e0
    have := (fd_zero (by omega)).1 e0
    omega
  have e1 : tcCk e t = 65535 - psum e 6 (tcHead t 0 ++ t.data) := rfl
  refine ⟨by omega, by omega, ?_⟩
  have hl : (tcSer e t).length = (tcHead t 0 ++ t.data).length := by simp [tcSer, tcHead_len]
  have e2 : ws true (psB e 6 ((tcSer e t).length : Int) ++ tcSer e t) = ws true (psB e 6 ((tcHead t 0 ++ t.data).length : Int) ++ (tcHead t 0 ++ t.data)) + tcCk e t := by
    rw [hl, ws_ps, ws_ps]
    unfold tcSer
    rw [ws_app8 (by rw [tcHead_len]; omega), ws_app8 (by rw [tcHead_len]; omega), ws_tcHead t (by omega) (by omega)]
    omega
  unfold psum sumOf at e1 h1 ⊢
  rw [e2]
  generalize ws true (psB e 6 ((tcHead t 0 ++ t.data).length : Int) ++ (tcHead t 0 ++ t.data)) = W at *
  rw [fd_most (by omega)]
  unfold fd at e1
  split at e1 <;> omega
theorem tc_bts (t : TcV) (c : Int) (d : List Int) (l : List Int) (hl : l = tcHead t c ++ d) :
    W16 l 0 = t.sp / 256 % 256 * 256 + t.sp % 256 ∧ W16 l 2 = t.dp / 256 % 256 * 256 + t.dp % 256 ∧ W16 l 4 = t.seq / 16777216 % 256 * 256 + t.seq / 65536 % 256 ∧ W16 l 6 = t.seq / 256 % 256 * 256 + t.seq % 256 ∧
    W16 l 8 = t.ack / 16777216 % 256 * 256 + t.ack / 65536 % 256 ∧ W16 l 10 = t.ack / 256 % 256 * 256 + t.ack % 256 ∧ bt l 12 = (thL t : Int) / 4 * 16 ∧ bt l 13 = t.fl ∧ W16 l 14 = t.win / 256 % 256 * 256 + t.win % 256 ∧
    W16 l 16 = c / 256 % 256 * 256 + c % 256 ∧ W16 l 18 = t.urg / 256 % 256 * 256 + t.urg % 256 := by
  subst hl
  exact ⟨rfl, rfl, rfl, rfl, rfl, rfl, rfl, rfl, rfl, rfl, rfl⟩
theorem tcSer_hd (h : tcChk t = 0) : tcHd (tcSer e t) = thL t := by
  have hr := thL_r (tcChk_ok h).2.2.2.2.2.2.2.1
  obtain ⟨_, _, _, _, _, _, b12, _⟩ := tc_bts t (tcCk e t) t.data _ (rfl : tcSer e t = _)
  unfold tcHd
  rw [b12]; omega
theorem tcSer_take (h : tcChk t = 0) : (tcSer e t).take (thL t) = tcHead t (tcCk e t) ∧ (tcSer e t).drop (thL t) = t.data ∧ tob (tcSer e t) = putO t.opts := by
  have e1 : (tcSer e t).take (thL t) = tcHead t (tcCk e t) := by unfold tcSer; rw [← tcHead_len t (tcCk e t), List.take_left]
  refine ⟨e1, by unfold tcSer; rw [← tcHead_len t (tcCk e t), List.drop_left], ?_⟩
  unfold tob
  rw [tcSer_hd h, e1]
  rfl
theorem tc_back (o : e.Ok) (f : TFit t) (h : tcPE e t = 0) : tcErr e (tcSer e t) = 0 ∧ tcOf e (tcSer e t) = t := by
  obtain ⟨hf, hc⟩ := tcPE_ok h
  obtain ⟨h1, h2, h3, h4, h5, h6, h7, h8, h9⟩ := tcChk_ok hc
  have hr := thL_r h8
  have hl := tcSer_len e t
  have hh := tcSer_hd (e := e) hc
  obtain ⟨t1, t2, t3⟩ := tcSer_take (e := e) hc
  obtain ⟨ps, q1, q2⟩ := optsP_put (ok := ok9) h8.1 h8.2
  obtain ⟨b0, b2, b4, b6, b8, b10, b12, b13, b14, b16, b18⟩ := tc_bts t (tcCk e t) t.data _ (rfl : tcSer e t = _)
  have he : tcErr e (tcSer e t) = 0 := by
    unfold tcErr
    rw [if_neg (by omega), if_neg (Classical.not_not.2 hf), if_neg (by omega), if_neg (by omega), if_neg (by rw [(tcCk_r o hc f).2.2]; decide), if_neg (by rw [t3, q1]; simp)]
  refine ⟨he, ?_⟩
  unfold tcOf
  rw [if_pos he]
  have e1 : W16 (tcSer e t) 0 = t.sp := by rw [b0]; omega
  have e2 : W16 (tcSer e t) 2 = t.dp := by rw [b2]; omega
  have e3 : W32 (tcSer e t) 4 = t.seq := by unfold W32; rw [b4, b6]; omega
  have e4 : W32 (tcSer e t) 8 = t.ack := by unfold W32; rw [b8, b10]; omega
  have e5 : W16 (tcSer e t) 14 = t.win := by rw [b14]; omega
  have e6 : W16 (tcSer e t) 18 = t.urg := by rw [b18]; omega
  have e7 : (tps (tcSer e t)).map (optAt (tob (tcSer e t))) = t.opts := by unfold tps; rw [t3, q1]; exact q2
  have e8 : (tcSer e t).drop (tcHd (tcSer e t)) = t.data := by rw [hh]; exact t2
  unfold tcRaw
  rw [e1, e2, e3, e4, e5, e6, e7, e8, b13]
theorem tcErr_ok (h : tcErr e l = 0) : l.length ≤ 65535 ∧ e.fit ∧ 20 ≤ tcHd l ∧ tcHd l ≤ l.length ∧ psum e 6 l = 65535 ∧ optsP ok9 (tob l) = some (tps l) := by
  unfold tcErr at h
  split at h; · cases h
  split at h; · cases h
  split at h; · cases h
  split at h; · cases h
  split at h; · cases h
  split at h; · cases h
  rename_i h1 h2 h3 h4 h5 h6
  refine ⟨by omega, Classical.not_not.1 h2, by omega, by omega, Classical.not_not.1 h5, ?_⟩
  unfold tps
  cases ee : optsP ok9 (tob l) with
  | none => exact absurd ee h6
  | some x => rfl
theorem tob_byt (h : Byt l) : Byt (tob l) := (h.take _).drop _
end
end Go.Vc
end

section
open Go Go.Vc Go.Proofs
set_option linter.unusedVariables false
set_option linter.unusedSimpArgs false
set_option autoImplicit false
namespace Go.Vc.S9
def lens9 : List Int := [0, 0, 16, 8, 4, 17247241216, 0, 0, 1024]
/-- the table of lengths stands -/
def Lens (w : World) : Prop := ∀ i (h : i < lens9.length), w.cell? ⟨2, i, none⟩ = some (.int .u64 lens9[i])
theorem Lens.old {w w1 : World} {n : List Nat} (h : Lens w) (u : Upd [] n w w1) : Lens w1 := fun i hi => u.cell (h i hi) (by simp)
theorem lens_ok : ∀ k : Fin 9, ∀ n : Fin 64, 2 ≤ n.val → lens9.getD k.val 0 ≠ 0 → (iand .u64 (gshr .u64 (lens9.getD k.val 0) (n.val : Int)) 1 == 1) = ok9 (k.val : Int) (n.val : Int) := by decide +kernel
theorem lens_no : ∀ k : Fin 9, ∀ n : Fin 64, 2 ≤ n.val → lens9.getD k.val 0 = 0 → ok9 (k.val : Int) (n.val : Int) = true := by decide +kernel
theorem c78 {kd n : Int} {w : World} {R : SV → World → Prop} (hg : Lens w) (h0 : 0 ≤ kd) (h1 : 2 ≤ n) (h2 : n < 64) (k : R (.bool (ok9 kd n)) w) : Ret Tryd.prog 78 [.int .i64 kd, .int .i64 n] w R := by
  refine f78_of _ _ _ _ ?_
  unfold vc78
  refine brd (fun h => ?_) (fun h => ?_)
  · have : ok9 kd n = true := by
      unfold ok9
      rw [decide_eq_true h1, if_neg (by omega), if_neg (by omega), if_neg (by omega), if_neg (by omega), if_neg (by omega)]; rfl
    rw [this] at k; exact k
  have hi : kd.toNat < lens9.length := by show kd.toNat < 9; omega
  have hc := hg kd.toNat hi
  rw [show (⟨2, kd.toNat, none⟩ : Addr) = Addr.add ⟨2, 0, none⟩ (Int.toNat kd * 1) by rw [add_none]; simp] at hc
  have ek : kd = ((⟨kd.toNat, by omega⟩ : Fin 9).val : Int) := by simp; omega
  have en : n = ((⟨n.toNat, by omega⟩ : Fin 64).val : Int) := by simp; omega
  have eg : lens9[kd.toNat] = lens9.getD (⟨kd.toNat, by omega⟩ : Fin 9).val 0 := by simp [List.getD_eq_getElem?_getD, List.getElem?_eq_getElem hi]
  have k1 := lens_ok ⟨kd.toNat, by omega⟩ ⟨n.toNat, by omega⟩ (by simp; omega)
  have k2 := lens_no ⟨kd.toNat, by omega⟩ ⟨n.toNat, by omega⟩ (by simp; omega)
  rw [← ek, ← en, ← eg] at k1 k2
  have ew : wr .u64 n = n := wr_u64 (by omega) (by omega)
  refine needIx2 h0 (by omega) ⟨_, hc, bre (fun h3 => ?_) (fun h3 => needIx2 h0 (by omega) ⟨_, hc, need (by rw [ew]; simp; omega) ?_⟩)⟩
  · rw [k2 h3] at k; exact k
  · rw [ew, k1 h3]; exact k
theorem c86 {kd n : Int} {w : World} {R : SV → World → Prop} (k : R (.bool (ok9 kd n)) w) : Ret Tryd.prog 86 [.int .i64 kd, .int .i64 n] w R := by
  refine f86_of _ _ _ _ ?_
  unfold vc86
  have fin : ∀ x, ok9 kd n = x → R (.bool x) w := fun x hx => hx ▸ k
  unfold ok9 at fin
  refine bre (fun h => fin _ ?_) (fun h => ?_)
  · rw [if_pos h, Bool.eq_iff_iff]; simp; omega
  rw [if_neg h] at fin
  refine bre (fun h => fin _ ?_) (fun h => ?_)
  · rw [if_pos h, Bool.eq_iff_iff]; simp; omega
  rw [if_neg h] at fin
  refine bre (fun h => fin _ ?_) (fun h => ?_)
  · rw [if_pos h, Bool.eq_iff_iff]; simp; omega
  rw [if_neg h] at fin
  refine bre (fun h => ?_) (fun h => ?_)
  · rw [if_pos h] at fin
    refine bre (fun g => fin _ (by rw [Bool.eq_iff_iff]; simp; omega)) (fun g1 => bre (fun g => fin _ (by rw [Bool.eq_iff_iff]; simp; omega)) (fun g2 => bre (fun g => fin _ (by rw [Bool.eq_iff_iff]; simp; omega)) (fun g3 => fin _ (by rw [Bool.eq_iff_iff]; simp; omega))))
  rw [if_neg h] at fin
  refine bre (fun h => fin _ ?_) (fun h => fin _ ?_)
  · rw [if_pos h, Bool.eq_iff_iff]; simp; omega
  · rw [if_neg h, Bool.eq_iff_iff]; simp
end Go.Vc.S9
end
