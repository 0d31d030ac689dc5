import Derived.Test.YtopobapmncbjhaaG3
import Derived.OpenShut
import Derived.ProofKit
import Derived.ChangeOld
import Derived.JoinedCond
namespace Go.Vc
open Go.ChangeShapes Go.WideShapes Go.ChangeAt Go.RowKit
set_option linter.unusedVariables false
set_option linter.unusedSimpArgs false
set_option autoImplicit false

/-! ### an argument that can be read as data, in the words of SV -/
mutual
def Ty.rd (f : Nat → Bool) : Ty → Bool
  | .int _ => true | .bool => true | .str => true | .arr _ _ => true
  | .slice e => f e
  | .struct _ ts => Ty.rds f ts
  | _ => false
def Ty.rds (f : Nat → Bool) : List Ty → Bool
  | [] => true
  | t :: r => t.rd f && Ty.rds f r
end
def rdN (X : Tab) : Nat → Nat → Bool
  | 0, _ => false
  | n + 1, t => (X.T t).rd (rdN X n)

section
variable {H : Type}
def All3 (R : Ty → SV → DataW H → Prop) : List Ty → List SV → List (DataW H) → Prop
  | [], [], [] => True
  | t :: ts, x :: xs, d :: ds => R t x d ∧ All3 R ts xs ds
  | _, _, _ => False

def Deep (X : Tab) (w : World) : Nat → Ty → SV → DataW H → Prop
  | 0, _, _, _ => False
  | m + 1, t, sv, d => match t with
    | .int k => ∃ n, sv = .int k n ∧ d = .lit (.int k n) ∧ (Lit.int k n).wf = true
    | .bool => ∃ b, sv = .bool b ∧ d = .lit (.bool b)
    | .str => ∃ s : ByteArray, sv = .str s ∧ d = .lit (.string s.data.toList) ∧ s.size ≤ maxLen
    | .arr k n => ∃ (f : Nat → Int) (l : List (DataW H)), sv = .arr k n f ∧ d = .agg l ∧ l.length = n ∧ ∀ i, i < n → l[i]? = some (.lit (.int k (f i))) ∧ (Lit.int k (f i)).wf = true
    | .struct _ ts => ∃ fs l, sv = .struct fs ∧ d = .agg l ∧ All3 (Deep X w m) ts fs l
    | .slice e => (sv = .slice ⟨none, 0, 0⟩ ∧ d = .nil) ∨ ∃ (a : Addr) (len cap : Nat) (vs : List SV) (ds : List (DataW H)), sv = .slice ⟨some a, len, cap⟩ ∧ d = .slice (ds.take len) (ds.drop len) ∧
        len ≤ cap ∧ cap ≤ maxLen ∧ vs.length = cap ∧ ds.length = cap ∧
        ∀ i sv d, vs[i]? = some sv → ds[i]? = some d → sv.shape (X.T e) = true ∧ Cells w (some (a.add (i * (X.T e).size))) sv.cells ∧ Deep X w m (X.T e) sv d
    | _ => False

variable {X : Tab} (ok : TabOK X) {enc : TypeId × Value → H} {w : World}
include ok in
theorem cellsOf_eq {t : Nat} (ht : isData (X.T t) = true) : X.P.cellsOf t = (X.T t).size := by
  obtain ⟨i, h1, h2, _⟩ := ok.info t ht
  simp [Program.cellsOf, h1, h2]

theorem rd_data {f : Nat → Bool} {t : Ty} (h : t.rd f = true) : isData t = true := by cases t <;> simp [Ty.rd] at h <;> rfl

theorem drop_take_split {cs : List Value} {o n : Nat} (h : o + n ≤ cs.length) : cs.drop o = (cs.drop o).take n ++ cs.drop (o + n) := by
  rw [← List.drop_drop, List.take_append_drop]

include ok in
theorem fields_deep {fuel m : Nat} {cs : List Value} {xs : List (DataW H × List MemPlace)}
    (ih : ∀ t cs d ps, (X.T t).rd (rdN X m) = true → DataW.trod enc X.P w 0 (fun _ => true) true fuel t cs = some (d, ps) → ∃ sv, cs = sv.cells ∧ sv.shape (X.T t) = true ∧ Deep X w fuel (X.T t) sv d) :
    ∀ (fs : List Field) (ts : List Ty) (off : Nat) (k : Nat), fieldsOK X fs ts off → Ty.rds (rdN X m) ts = true → xs.length = k + fs.length → cs.length = off + Ty.sizes ts →
    (∀ i f, fs[i]? = some f → DataW.trod enc X.P w 0 (fun _ => true) true fuel f.type (List.take (X.P.cellsOf f.type) (List.drop f.offset cs)) = xs[k + i]?) →
    ∃ svs, cs.drop off = SV.cellsL svs ∧ SV.shapes svs ts = true ∧ All3 (Deep X w fuel) ts svs ((xs.drop k).map (·.1))
  | [], [], off, k, _, _, hx, hc, _ => by
    simp [Ty.sizes] at hc hx
    exact ⟨[], by simp [SV.cellsL, hc], rfl, by rw [List.drop_of_length_le (by omega)]; exact trivial⟩
  | f :: fr, t :: tr, off, k, hf, hr, hx, hc, hk => by
    obtain ⟨h1, rfl, _, h4⟩ := hf
    simp only [Ty.rds, Bool.and_eq_true] at hr
    have hsz := cellsOf_eq ok (rd_data hr.1)
    simp only [Ty.sizes] at hc
    simp at hx
    have h0 := hk 0 f rfl
    rw [hsz, h1] at h0
    have hlt : k < xs.length := by omega
    rw [Nat.add_zero, List.getElem?_eq_getElem hlt] at h0
    obtain ⟨sv, e1, e2, e3⟩ := ih f.type _ _ _ hr.1 h0
    obtain ⟨svs, g1, g2, g3⟩ := fields_deep (cs := cs) (xs := xs) ih fr tr (off + (X.T f.type).size) (k + 1) h4 hr.2 (by omega) (by omega) (fun i g hg => by
      have := hk (i + 1) g (by simpa using hg)
      rwa [show k + 1 + i = k + (i + 1) by omega])
    refine ⟨sv :: svs, ?_, by simp [SV.shapes, e2, g2], ?_⟩
    · rw [drop_take_split (cs := cs) (o := off) (n := (X.T f.type).size) (by omega), e1, g1]
      rfl
    · rw [List.drop_eq_getElem_cons hlt]
      exact ⟨e3, g3⟩
  | [], _ :: _, _, _, hf, _, _, _, _ => by simp [fieldsOK] at hf
  | _ :: _, [], _, _, hf, _, _, _, _ => by simp [fieldsOK] at hf

include ok in
theorem elems_deep {fuel m e n : Nat} {cs : List Value} {xs : List (DataW H × List MemPlace)}
    (ih : ∀ t cs d ps, (X.T t).rd (rdN X m) = true → DataW.trod enc X.P w 0 (fun _ => true) true fuel t cs = some (d, ps) → ∃ sv, cs = sv.cells ∧ sv.shape (X.T t) = true ∧ Deep X w fuel (X.T t) sv d)
    (hr : (X.T e).rd (rdN X m) = true) (hx : xs.length = n) (hk : ∀ i, i < n → DataW.trod enc X.P w 0 (fun _ => true) true fuel e (List.take (X.P.cellsOf e) (List.drop (i * X.P.cellsOf e) cs)) = xs[i]?) :
    ∀ (j k : Nat), k + j = n → cs.length = n * (X.T e).size → 
    ∃ svs, cs.drop (k * (X.T e).size) = SV.cellsL svs ∧ SV.shapes svs (List.replicate j (X.T e)) = true ∧ All3 (Deep X w fuel) (List.replicate j (X.T e)) svs ((xs.drop k).map (·.1))
  | 0, k, hn, hc => by
    have : k = n := by omega
    subst this
    exact ⟨[], by simp [SV.cellsL, hc], rfl, by rw [List.drop_of_length_le (by omega)]; exact trivial⟩
  | j + 1, k, hn, hc => by
    have hsz := cellsOf_eq ok (rd_data hr)
    have hlt : k < xs.length := by omega
    have h0 := hk k (by omega)
    rw [hsz, List.getElem?_eq_getElem hlt] at h0
    obtain ⟨sv, e1, e2, e3⟩ := ih e _ _ _ hr h0
    obtain ⟨svs, g1, g2, g3⟩ := elems_deep ih hr hx hk j (k + 1) (by omega) hc
    have hm : (k + 1) * (X.T e).size ≤ n * (X.T e).size := Nat.mul_le_mul_right _ (by omega)
    rw [Nat.add_mul] at hm g1
    refine ⟨sv :: svs, ?_, by simp [List.replicate_succ, SV.shapes, e2, g2], ?_⟩
    · rw [drop_take_split (cs := cs) (o := k * (X.T e).size) (n := (X.T e).size) (by omega), e1]
      rw [Nat.one_mul] at g1
      rw [g1]; rfl
    · rw [List.drop_eq_getElem_cons hlt, List.replicate_succ]
      exact ⟨e3, g3⟩

theorem all3_ints {R : Ty → SV → DataW H → Prop} {k : IntKind} (hR : ∀ sv d, R (.int k) sv d → ∃ n, sv = .int k n ∧ d = .lit (.int k n) ∧ (Lit.int k n).wf = true) :
    ∀ (n : Nat) (svs : List SV) (ds : List (DataW H)), All3 R (List.replicate n (.int k)) svs ds →
    ∃ f : Nat → Int, SV.cellsL svs = (List.range n).map (fun i => .int k (f i)) ∧ ds.length = n ∧ ∀ i, i < n → ds[i]? = some (.lit (.int k (f i))) ∧ (Lit.int k (f i)).wf = true
  | 0, [], [], _ => ⟨fun _ => 0, by simp [SV.cellsL], rfl, by simp⟩
  | n + 1, sv :: svs, d :: ds, h => by
    rw [List.replicate_succ] at h
    obtain ⟨h1, h2⟩ := h
    obtain ⟨x, rfl, rfl, hw⟩ := hR _ _ h1
    obtain ⟨f, g1, g2, g3⟩ := all3_ints hR n svs ds h2
    refine ⟨fun i => if i = 0 then x else f (i - 1), ?_, by simp [g2], ?_⟩
    · rw [List.range_succ_eq_map, SV.cellsL, g1]
      simp [SV.cells, Function.comp_def]
    · intro i hi
      cases i with
      | zero => simp [hw]
      | succ i => simpa using g3 i (by omega)
  | 0, [], _ :: _, h => by simp [All3] at h
  | 0, _ :: _, _, h => by simp [All3] at h
  | n + 1, [], _, h => by simp [List.replicate_succ, All3] at h
  | n + 1, _ :: _, [], h => by simp [List.replicate_succ, All3] at h

include ok in
theorem deep_of_trod : ∀ (fuel m : Nat) (t : Nat) (cs : List Value) (d : DataW H) (ps : List MemPlace), (X.T t).rd (rdN X m) = true → DataW.trod enc X.P w 0 (fun _ => true) true fuel t cs = some (d, ps) →
    ∃ sv, cs = sv.cells ∧ sv.shape (X.T t) = true ∧ Deep X w fuel (X.T t) sv d := by
  intro fuel
  induction fuel with
  | zero => intro m t cs d ps _ h; simp [DataW.trod] at h
  | succ fuel ih =>
    intro m t cs d ps hr h
    have hty := ok.ty t
    have hsz := cellsOf_eq ok (rd_data hr)
    cases hT : X.T t with
    | int k =>
      rw [hT] at hty
      obtain ⟨n, rfl, hx, hw⟩ := DataW.trod_int (t := t) hty h
      simp at hx
      exact ⟨.int k n, rfl, by simp [SV.shape, ksame_refl], by simp only [Deep]; exact ⟨n, rfl, hx.1, hw⟩⟩
    | bool =>
      rw [hT] at hty
      obtain ⟨n, rfl, hx⟩ := DataW.trod_bool (t := t) hty h
      simp at hx
      exact ⟨.bool n, rfl, by simp [SV.shape], by simp only [Deep]; exact ⟨n, rfl, hx.1⟩⟩
    | str =>
      rw [hT] at hty
      obtain ⟨n, rfl, hx, hw⟩ := DataW.trod_string (t := t) hty h
      simp at hx
      exact ⟨.str n, rfl, by simp [SV.shape], by simp only [Deep]; exact ⟨n, rfl, hx.1, hw⟩⟩
    | arr k n =>
      rw [hT] at hty hsz
      obtain ⟨e, hu, he⟩ := hty
      obtain ⟨xs, m', hm', hx, hlen, hxs, hk⟩ := DataW.trod_array hu h
      have hm'' : fuel = m' := by omega
      subst hm''
      simp only [Prod.mk.injEq] at hx
      have hee : (X.T e).rd (rdN X m) = true := by rw [he]; rfl
      obtain ⟨svs, g1, g2, g3⟩ := elems_deep ok (ih m) hee hxs hk n 0 (by omega) (by rw [hlen, hsz, he]; simp [Ty.size])
      rw [he] at g3
      obtain ⟨f, q1, q2, q3⟩ := all3_ints (fun sv d hd => by
        cases fuel with
        | zero => simp [Deep] at hd
        | succ q => simpa only [Deep] using hd) n svs _ g3
      refine ⟨.arr k n f, ?_, by simp [SV.shape, ksame_refl], ?_⟩
      · simp at g1; rw [g1, q1]; rfl
      · simp only [Deep]
        exact ⟨f, _, rfl, hx.1, by simpa using q2, by simpa using q3⟩
    | struct b ts =>
      rw [hT] at hty hsz hr
      cases b with
      | false =>
        obtain ⟨fs, hu, hfo, _⟩ := hty
        obtain ⟨xs, m', hm', hx, hlen, hxs, hk⟩ := DataW.trod_struct hu h
        have hm'' : fuel = m' := by omega
        subst hm''
        simp only [Prod.mk.injEq] at hx
        obtain ⟨svs, g1, g2, g3⟩ := fields_deep ok (ih m) fs.toList ts 0 0 hfo (by simpa only [Ty.rd] using hr) (by simpa using hxs) (by rw [hlen, hsz]; simp [Ty.size]) (fun i f hf => by simpa using hk i f (by simpa using hf))
        refine ⟨.struct svs, by simpa [SV.cells] using g1, by simpa [SV.shape] using g2, ?_⟩
        simp only [Deep]
        exact ⟨svs, _, rfl, hx.1, by simpa using g3⟩
      | true =>
        obtain ⟨n, e, hu, rfl, hde⟩ := hty
        obtain ⟨xs, m', hm', hx, hlen, hxs, hk⟩ := DataW.trod_array hu h
        have hm'' : fuel = m' := by omega
        subst hm''
        simp only [Prod.mk.injEq] at hx
        have hss : ∀ n : Nat, Ty.sizes (List.replicate n (X.T e)) = n * (X.T e).size := by
          intro n
          induction n with
          | zero => simp [Ty.sizes]
          | succ n ihn => rw [List.replicate_succ, Ty.sizes, ihn, Nat.add_mul]; omega
        cases n with
        | zero =>
          have : cs = [] := by
            rw [hsz] at hlen
            simp [Ty.size, Ty.sizes] at hlen
            exact hlen
          subst this
          have hx0 : xs = [] := by simpa using hxs
          subst hx0
          exact ⟨.struct [], rfl, rfl, by simp only [Deep]; exact ⟨[], _, rfl, hx.1, by simp [All3]⟩⟩
        | succ n =>
          have hee : (X.T e).rd (rdN X m) = true := by simp only [Ty.rd, List.replicate_succ, Ty.rds, Bool.and_eq_true] at hr; exact hr.1
          obtain ⟨svs, g1, g2, g3⟩ := elems_deep ok (ih m) hee hxs hk (n + 1) 0 (by omega) (by rw [hlen, hsz, Ty.size, hss])
          refine ⟨.struct svs, by simpa [SV.cells] using g1, by simpa [SV.shape] using g2, ?_⟩
          simp only [Deep]
          exact ⟨svs, _, rfl, hx.1, by simpa using g3⟩
    | slice e =>
      rw [hT] at hty hsz hr
      have hre : rdN X m e = true := by simpa only [Ty.rd] using hr
      cases m with
      | zero => simp [rdN] at hre
      | succ m =>
        simp only [rdN] at hre
        have hse := cellsOf_eq ok (rd_data hre)
        rcases DataW.trod_slice (t := t) hty h with ⟨rfl, hx⟩ | ⟨a, len, cap, elems, rest, n, hn, rfl, hx, _, hl, hm, hel, hk, hsp, _⟩
        · simp at hx
          exact ⟨.slice ⟨none, 0, 0⟩, rfl, rfl, by unfold Deep; exact .inl ⟨rfl, hx.1⟩⟩
        · have hn' : fuel = n := by omega
          subst hn'
          obtain ⟨hrl, hrk⟩ := hsp rfl
          simp only [Prod.mk.injEq] at hx
          have each : ∀ i, i < cap → ∃ sv, sv.shape (X.T e) = true ∧ Cells w (some (a.add (i * (X.T e).size))) sv.cells ∧ ∃ d, ((elems ++ rest).map (·.1))[i]? = some d ∧ Deep X w fuel (X.T e) sv d := by
            intro i hi
            have hb : (w.cells? 0 (a.add (i * X.P.cellsOf e)) (X.P.cellsOf e)).bind (DataW.trod enc X.P w 0 (fun _ => true) true fuel e) = (elems ++ rest)[i]? := by
              by_cases hil : i < len
              · rw [hk i hil, List.getElem?_append_left (by omega)]
              · have := hrk (i - len) (by omega)
                rw [show len + (i - len) = i by omega] at this
                rw [this, List.getElem?_append_right (by omega), hel]
            have hlt : i < (elems ++ rest).length := by simp; omega
            rw [List.getElem?_eq_getElem hlt, Option.bind_eq_some_iff] at hb
            obtain ⟨cs', hcs, hy⟩ := hb
            obtain ⟨sv, e1, e2, e3⟩ := ih m e cs' _ _ hre hy
            refine ⟨sv, e2, ?_, _, by rw [List.getElem?_map, List.getElem?_eq_getElem hlt]; rfl, e3⟩
            rw [hse] at hcs
            obtain ⟨_, c2, c3⟩ := World.cells?_some hcs
            intro j hj
            rw [c3 j (by rw [← c2, e1]; exact hj), e1]
            simp [hj]
          have hds : ((elems ++ rest).map (·.1)).length = cap := by simp; omega
          let vs : List SV := (List.range cap).map fun i => if hi : i < cap then Classical.choose (each i hi) else .bool true
          refine ⟨.slice ⟨some a, len, cap⟩, rfl, rfl, ?_⟩
          simp only [Deep]
          refine .inr ⟨a, len, cap, vs, (elems ++ rest).map (·.1), rfl, ?_, hl, hm, by simp [vs], hds, ?_⟩
          · rw [hx.1, ← hel, ← (show (elems.map (·.1)).length = elems.length by simp), List.map_append, List.take_left, List.drop_left]
          · intro i sv d h1 h2
            have hi : i < cap := by
              have := (List.getElem?_eq_some_iff.1 h1).1
              simpa [vs] using this
            have hsv : sv = Classical.choose (each i hi) := by
              have : vs[i]? = some (Classical.choose (each i hi)) := by simp [vs, hi]
              rw [this] at h1
              simpa using h1.symm
            obtain ⟨k1, k2, d', k3, k4⟩ := Classical.choose_spec (each i hi)
            rw [k3] at h2
            obtain rfl : d' = d := by simpa using h2
            rw [hsv]
            exact ⟨k1, k2, k4⟩
    | ptr e => rw [hT] at hr; simp [Ty.rd] at hr
    | map => rw [hT] at hr; simp [Ty.rd] at hr
    | tuple ts => rw [hT] at hr; simp [Ty.rd] at hr
    | other => rw [hT] at hr; simp [Ty.rd] at hr
end
end Go.Vc
