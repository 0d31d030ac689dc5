import Derived.Test.YtlohkdkgpajkaaaDoorG5
import Derived.Test.YtlohkdkgpajkaaaDoorG6
import Derived.Test.YtlohkdkgpajkaaaDoorG8
import Derived.Test.YtlohkdkgpajkaaaDoorCards
import Derived.Test.YtlohkdkgpajkaaaDoorTie
import Derived.Deep.DeepHandedRow
import Derived.Lib.LaidTab
section
open Go Go.Vc
set_option linter.unusedVariables false
set_option linter.unusedSimpArgs false
set_option autoImplicit false
namespace Go.Vc
theorem cells_each {α : Type} {c : Cod α} {w : World} : ∀ {l : List α} {a : Addr}, (∀ i (hi : i < l.length), Cells w (some (a.add (i * c.sz))) (c.enc l[i])) → Cells w (some a) (c.cells l)
  | [], a, _ => by intro i hi; simp [Cod.cells] at hi
  | x :: r, a, h => by
    rw [Cod.cells_cons]
    refine Cells.mk ?_ (cells_each fun i hi => ?_)
    · have := h 0 (by simp)
      rw [Nat.zero_mul, add_zero] at this
      exact this
    · have h1 := h (i + 1) (by simp; omega)
      rw [c.len, add_add, show c.sz + i * c.sz = (i + 1) * c.sz by rw [Nat.add_mul, Nat.one_mul, Nat.add_comm]]
      exact h1
section
open Go.ChangeShapes Go.WideShapes Go.ChangeAt Go.RowKit
variable {H : Type} {X : Tab} {w : World}
/-- a slice of structs of plain values -/
theorem dp_slice {α : Type} {c : Cod α} {P : α → Prop} {m e : Nat} {x : SV} {d : DataW H} (hsz : (X.T e).size = c.sz)
    (hE : ∀ (m : Nat) (x : SV) (d : DataW H), Deep X w m (X.T e) x d → ∃ a : α, x.cells = c.enc a ∧ P a) (h : Deep X w m (.slice e) x d) :
    ∃ (s : Sl) (l : List α), x = .slice s ∧ Sees c w s l ∧ (∀ a ∈ l, P a) ∧ s.len ≤ s.cap ∧ (d = .nil ∧ l = [] ∨ ∃ els sp, d = .slice els sp ∧ els.length = l.length) := by
  cases m with
  | zero => exact h.elim
  | succ m =>
    simp only [Deep] at h
    rcases h with ⟨rfl, rfl⟩ | ⟨a, len, cap, vs, ds, rfl, rfl, hl, hm, hv, hd, h⟩
    · exact ⟨⟨none, 0, 0⟩, [], rfl, Sees.nil _ _ _ _, by simp, Nat.le_refl _, .inl ⟨rfl, rfl⟩⟩
    · have each : ∀ i (hi : i < cap), ∃ t : α, Cells w (some (a.add (i * c.sz))) (c.enc t) ∧ P t := by
        intro i hi
        obtain ⟨h1, h2, h3⟩ := h i _ _ (List.getElem?_eq_getElem (by omega)) (List.getElem?_eq_getElem (by omega))
        obtain ⟨t, g1, g2⟩ := hE _ _ _ h3
        rw [hsz, g1] at h2
        exact ⟨t, h2, g2⟩
      let F : Fin len → α := fun i => Classical.choose (each i (by omega))
      have hF : ∀ i : Fin len, Cells w (some (a.add (i * c.sz))) (c.enc (F i)) ∧ P (F i) := fun i => Classical.choose_spec (each i (by omega))
      refine ⟨⟨some a, len, cap⟩, List.ofFn F, rfl, ⟨by simp, cells_each fun i hi => ?_⟩, fun y hy => ?_, hl, .inr ⟨_, _, rfl, by simp; omega⟩⟩
      · rw [List.getElem_ofFn]
        exact (hF ⟨i, by simpa using hi⟩).1
      · obtain ⟨i, rfl⟩ := List.mem_ofFn.1 hy
        exact (hF i).2
end
end Go.Vc
end

section
open Go Go.Vc
set_option linter.unusedVariables false
set_option linter.unusedSimpArgs false
set_option autoImplicit false
namespace Go.Vc
section
open Go.ChangeShapes Go.WideShapes Go.ChangeAt Go.RowKit
variable {H : Type} {X : Tab} {w : World}
/-- a slice's datum and its length -/
def SlLen (d : DataW H) (n : Nat) : Prop := (d = .nil ∧ n = 0) ∨ ∃ els sp, d = .slice els sp ∧ els.length = n
theorem deep_bytes' {m t e : Nat} {x : SV} {d : DataW H} (hT : X.T t = .slice e) (hE : X.T e = .int .u8) (h : Deep X w m (X.T t) x d) :
    ∃ (s : Sl) (l : List Int), x = .slice s ∧ SeesB w s l ∧ Byt l ∧ s.len ≤ s.cap ∧ SlLen d l.length := by
  obtain ⟨s, l, h1, h2, h3, h4, h5, h6⟩ := deep_bytes hT hE h
  refine ⟨s, l, h1, h2, h3, h4, ?_⟩
  rcases h6 with ⟨rfl, rfl⟩ | ⟨els, sp, rfl, h7, _⟩
  · left; exact ⟨rfl, by have := h2.len; simpa using this.symm⟩
  · right; exact ⟨els, sp, rfl, h7⟩
/-- a slice of options -/
theorem dp_opts {m t e t2 e2 : Nat} {x : SV} {d : DataW H} (hT : X.T t = .slice e) (hE : X.T e = .struct false [.int .i64, .slice e2]) (hT2 : X.T t2 = .slice e2) (hE2 : X.T e2 = .int .u8) (h : Deep X w m (X.T t) x d) :
    ∃ (s : Sl) (l : List Opt) (os : List (Int × Sl)), x = .slice s ∧ Opts w s l os ∧ (∀ o ∈ l, Byt o.data) ∧ (∀ y ∈ os, y.2.len ≤ y.2.cap) ∧ s.len ≤ s.cap ∧
      (d = .nil ∧ l = [] ∨ ∃ els sp, d = .slice els sp ∧ els.length = l.length ∧ ∀ i (hi : i < l.length), ∃ dk dd, els[i]? = some (.agg [dk, dd]) ∧ SlLen dd l[i].data.length) := by
  rw [hT] at h
  cases m with
  | zero => exact h.elim
  | succ m =>
    simp only [Deep] at h
    rcases h with ⟨rfl, rfl⟩ | ⟨a, len, cap, vs, ds, rfl, rfl, hl, hm, hv, hd, h⟩
    · exact ⟨⟨none, 0, 0⟩, [], [], rfl, Opts.nil _ _ _, by simp, by simp, Nat.le_refl _, .inl ⟨rfl, rfl⟩⟩
    · have each : ∀ i (hi : i < cap), ∃ (o : Opt) (s : Sl), Cells w (some (a.add (i * 2))) (cOpt.enc (o.kind, s)) ∧ SeesB w s o.data ∧ Byt o.data ∧ s.len ≤ s.cap ∧ ∃ dk dd, ds[i]'(by omega) = .agg [dk, dd] ∧ SlLen dd o.data.length := by
        intro i hi
        obtain ⟨h1, h2, h3⟩ := h i _ _ (List.getElem?_eq_getElem (by omega)) (List.getElem?_eq_getElem (by omega))
        rw [hE] at h3 h2
        obtain ⟨fs, l, m', e1, e2', q⟩ := dp_struct h3
        obtain ⟨x1, _, d1, _, rfl, rfl, q1, q⟩ := all3_cons q
        obtain ⟨x2, _, d2, _, rfl, rfl, q2, q⟩ := all3_cons q
        obtain ⟨rfl, rfl⟩ := all3_nil q
        obtain ⟨k, rfl, _, _⟩ := dp_int q1
        rw [← hT2] at q2
        obtain ⟨s, l, rfl, g2, g3, g4, g5⟩ := deep_bytes' hT2 hE2 q2
        refine ⟨⟨k, l⟩, s, ?_, g2, g3, g4, d1, d2, e2', g5⟩
        rw [e1] at h2
        exact h2
      let F : Fin len → Opt := fun i => Classical.choose (each i (by omega))
      have hF0 : ∀ i : Fin len, ∃ (s : Sl), Cells w (some (a.add (i * 2))) (cOpt.enc ((F i).kind, s)) ∧ SeesB w s (F i).data ∧ Byt (F i).data ∧ s.len ≤ s.cap ∧ ∃ dk dd, ds[i.val]'(by omega) = .agg [dk, dd] ∧ SlLen dd (F i).data.length := fun i => Classical.choose_spec (each i (by omega))
      let G : Fin len → Sl := fun i => Classical.choose (hF0 i)
      have hG : ∀ i : Fin len, Cells w (some (a.add (i * 2))) (cOpt.enc ((F i).kind, G i)) ∧ SeesB w (G i) (F i).data ∧ Byt (F i).data ∧ (G i).len ≤ (G i).cap ∧ ∃ dk dd, ds[i.val]'(by omega) = .agg [dk, dd] ∧ SlLen dd (F i).data.length := fun i => Classical.choose_spec (hF0 i)
      refine ⟨⟨some a, len, cap⟩, List.ofFn F, List.ofFn fun i => ((F i).kind, G i), rfl, ⟨⟨by simp, cells_each fun i hi => ?_⟩, by simp, fun i hi => by simp, fun i hi => ?_⟩, fun y hy => ?_, fun y hy => ?_, hl, .inr ⟨_, _, rfl, by simp; omega, fun i hi => ?_⟩⟩
      · rw [List.getElem_ofFn]
        exact (hG ⟨i, by simpa using hi⟩).1
      · simp only [List.getElem_ofFn]
        exact (hG ⟨i, by simpa using hi⟩).2.1
      · obtain ⟨i, rfl⟩ := List.mem_ofFn.1 hy
        exact (hG i).2.2.1
      · obtain ⟨i, rfl⟩ := List.mem_ofFn.1 hy
        exact (hG i).2.2.2.1
      · simp only [List.getElem_ofFn]
        have hi' : i < len := by simpa using hi
        obtain ⟨dk, dd, e1, e2'⟩ := (hG ⟨i, hi'⟩).2.2.2.2
        refine ⟨dk, dd, ?_, e2'⟩
        rw [List.getElem?_take_of_lt hi', List.getElem?_eq_getElem (by omega)]
        exact congrArg some e1

/-! ### what weighs little is short -/
theorem weightsAll_mem {P : Program} {e : Nat} : ∀ {ds : List (DataW H)} {i : Nat} {d : DataW H}, ds[i]? = some d → ∀ n ∈ d.weights P e, n ∈ DataW.weightsAll P e ds
  | [], _, _, h, _, _ => by simp at h
  | x :: r, 0, d, h, n, hn => by
    simp at h; subst h
    simp only [DataW.weightsAll, List.mem_append]; exact .inl hn
  | x :: r, i + 1, d, h, n, hn => by
    simp only [DataW.weightsAll, List.mem_append]
    exact .inr (weightsAll_mem (i := i) (by simpa using h) n hn)
/-- all that is reached in a datum weighs at most that -/
def Light (P : Program) (t : Nat) (d : DataW H) : Prop := ∀ n ∈ d.weights P t, n ≤ 140737488351232
theorem light_arg {P : Program} {ts : List Nat} {ds : List (DataW H)} (h : (DataW.weightsEach P ts ds).all (· ≤ reachBytes) = true) : ∀ n ∈ DataW.weightsEach P ts ds, n ≤ 140737488351232 := fun n hn => by
  have h1 := List.all_eq_true.1 h n hn
  have h2 : n ≤ reachBytes := of_decide_eq_true h1
  exact h2
theorem light_head {P : Program} {t : Nat} {ts : List Nat} {d : DataW H} {ds : List (DataW H)} (h : ∀ n ∈ DataW.weightsEach P (t :: ts) (d :: ds), n ≤ 140737488351232) : Light P t d ∧ ∀ n ∈ DataW.weightsEach P ts ds, n ≤ 140737488351232 :=
  ⟨fun n hn => h n (by simp only [DataW.weightsEach, List.mem_append]; exact .inl hn), fun n hn => h n (by simp only [DataW.weightsEach, List.mem_append]; exact .inr hn)⟩
theorem light_struct {P : Program} {t : Nat} {fs : Array Field} {ts : List Nat} {l : List (DataW H)} (hu : P.underlying t = some (.struct fs)) (ht : fs.toList.map (·.type) = ts) (h : Light P t (.agg l)) : ∀ n ∈ DataW.weightsEach P ts l, n ≤ 140737488351232 := fun n hn => by
  refine h n ?_
  simp only [DataW.weights, hu, ht]
  exact hn
theorem light_slice {P : Program} {t e b : Nat} {els sp : List (DataW H)} (hu : P.underlying t = some (.slice e)) (hb : P.bytesOf e = b) (h : Light P t (.slice els sp)) : els.length * b ≤ 140737488351232 ∧ ∀ (i : Nat) (d : DataW H), els[i]? = some d → Light P e d := by
  refine ⟨?_, fun i d hd n hn => ?_⟩
  · have := h ((els.length + sp.length) * b) (by simp only [DataW.weights, hu, hb]; simp)
    rw [Nat.add_mul] at this
    omega
  · exact h n (by simp only [DataW.weights, hu]; simp only [List.mem_cons, List.mem_append]; exact .inr (.inl (weightsAll_mem hd n hn)))
theorem light_len {P : Program} {t e : Nat} {d : DataW H} {n : Nat} (hu : P.underlying t = some (.slice e)) (hb : P.bytesOf e = 1) (h : Light P t d) (hd : SlLen d n) : n ≤ 140737488351232 := by
  rcases hd with ⟨_, rfl⟩ | ⟨els, sp, rfl, rfl⟩
  · omega
  · have := (light_slice hu hb h).1; omega
/-- options that weigh little -/
theorem light_opts {P : Program} {t e t2 e2 t1 : Nat} {fs : Array Field} {d : DataW H} {l : List Opt} (hu : P.underlying t = some (.slice e)) (hb : P.bytesOf e = 32) (hs : P.underlying e = some (.struct fs)) (hft : fs.toList.map (·.type) = [t1, t2]) (hu2 : P.underlying t2 = some (.slice e2)) (hb2 : P.bytesOf e2 = 1) (h : Light P t d)
    (hd : d = .nil ∧ l = [] ∨ ∃ els sp, d = .slice els sp ∧ els.length = l.length ∧ ∀ i (hi : i < l.length), ∃ dk dd, els[i]? = some (.agg [dk, dd]) ∧ SlLen dd l[i].data.length) :
    l.length ≤ 4398046511000 ∧ ∀ o ∈ l, o.data.length ≤ 140737488351232 := by
  rcases hd with ⟨rfl, rfl⟩ | ⟨els, sp, rfl, he, hh⟩
  · simp
  · obtain ⟨h1, h2⟩ := light_slice hu hb h
    refine ⟨by omega, fun o ho => ?_⟩
    obtain ⟨i, hi, rfl⟩ := List.getElem_of_mem ho
    obtain ⟨dk, dd, e1, e2'⟩ := hh i hi
    have h3 := light_struct hs hft (h2 _ _ e1)
    exact light_len hu2 hb2 (light_head (light_head h3).2).1 e2'
end
end Go.Vc
end

section
open Go Go.Vc Go.Proofs
set_option linter.unusedVariables false
set_option linter.unusedSimpArgs false
set_option autoImplicit false
namespace Go.Vc.S6

section
variable {va vb : IpV} {sa sb da db : Sl} {oa ob : List (Int × Sl)} {w : World} {R : SV → World → Prop}
theorem eqArr_t {n : Nat} {f g : Nat → Int} (h : ∀ i, i < n → f i = g i) : eqArr n f g = true := eqArr_iff.2 h
set_option maxRecDepth 10000 in
/-- the same datagrams are told the same -/
theorem c29T (he : IpEq va vb) (hOa : Opts w sa va.opts oa) (hOb : Opts w sb vb.opts ob) (hoa : ∀ o ∈ va.opts, Byt o.data) (hl : va.opts.length < 9223372036854775807) (hDa : SeesB w da va.data) (hDb : SeesB w db vb.data) (hda : Byt va.data)
    (k : ∀ w1, Upd [] [] w w1 → R (.bool true) w1) : Ret Tryd.prog 29 [ipSV va sa da, ipSV vb sb db] w R := by
  refine f29_of _ _ _ _ _ _ _ _ _ _ _ _ _ _ _ _ _ _ _ _ _ _ _ _ _ _ _ _ ?_
  unfold vc29
  intro b b7 J hJ
  have hob : ∀ o ∈ vb.opts, Byt o.data := by rw [← he.opts]; exact hoa
  have hdb : Byt vb.data := by rw [← he.data]; exact hda
  refine brf (by rw [he.tos]; simp) (brf (by rw [he.id]; simp) (brf (by rw [he.df]; simp) (brf (by rw [he.mf]; simp) (brf (by rw [he.off]; simp) (brf (by rw [he.ttl]; simp) (brf (by rw [he.proto]; simp) (brf (by rw [he.sv, eqArr_t he.sa]; simp) (brf (by rw [he.dv, eqArr_t he.da]; simp) fun w1 u1 => ?_))))))))
  (repeat refine And.intro rfl ?_)
  refine hJ _ ?_
  refine c51 (hOa.old u1) (hOb.old u1) hoa hob hl fun w2 u2 => ⟨_, rfl, kp u2, ?_⟩
  refine brt (decide_eq_true he.opts) ?_
  refine c24 ((hDa.old u1).old u2) ((hDb.old u1).old u2) hda hdb ⟨_, rfl, kp (Upd.refl _), ?_⟩
  rw [decide_eq_true he.data]
  exact k _ (u1.then u2)

theorem c26 (hO : Opts w sa va.opts oa) (hl : va.opts.length ≤ 4398046511104) (hod : ∀ o ∈ va.opts, o.data.length ≤ 140737488355328) (hD : SeesB w da va.data) (hdl : va.data.length ≤ 140737488355328)
    (k : ∀ s os d w1, Upd [] [] w w1 → Opts w1 s va.opts os → Own w.heap.size 2 w1 s → (∀ x ∈ os, Own w.heap.size 1 w1 x.2) → SeesB w1 d va.data → Own w.heap.size 1 w1 d → R (ipSV va s d) w1) : Ret Tryd.prog 26 [ipSV va sa da] w R := by
  refine f26_of _ _ _ _ _ _ _ _ _ _ _ _ _ _ _ ?_
  unfold vc26
  intro b b1 w1 u1
  have n1 := u1.new (b := b) (by simp)
  have n2 := u1.new (b := b1) (by simp)
  have y1 := u1.size
  refine c65 (hO.old u1) hl hod fun s os w2 u2 hs ho hos => ⟨_, rfl, kp u2, fun w3 u3 => ?_⟩
  have v3 := (u1.then u2).step0 u3 (by simp; omega)
  have y2 := u2.size
  have y3 := u3.size
  have q : ∀ x ∈ s.blk, x ∉ [b] := fun x hx hm => by have := (ho.blk x hx).1; simp at hm; omega
  have q2 : ∀ y ∈ os, ∀ x ∈ y.2.blk, x ∉ [b] := fun y hy x hx hm => by have := ((hos y hy).blk x hx).1; simp at hm; omega
  refine c23 (hD.old v3) hdl fun d w4 u4 hd hod' => ⟨_, rfl, kp u4, fun w5 u5 => ?_⟩
  have q5 : ∀ x ∈ s.blk, x ∉ [b1, b] := fun x hx hm => by have := (ho.blk x hx).1; simp at hm; omega
  have q52 : ∀ y ∈ os, ∀ x ∈ y.2.blk, x ∉ [b1, b] := fun y hy x hx hm => by have := ((hos y hy).blk x hx).1; simp at hm; omega
  have q53 : ∀ x ∈ d.blk, x ∉ [b1, b] := fun x hx hm => by have := (hod'.blk x hx).1; simp at hm; omega
  refine k s os d w5 ((v3.then u4).step0 u5 (by simp; omega)) (((hs.upd u3 q q2).old u4).upd u5 q5 q52) ((((ho.upd u3 q).old u4).upd u5 q5).mono y1) (fun x hx => ((((hos x hx).upd u3 (q2 x hx)).old u4).upd u5 (q52 x hx)).mono y1) (hd.upd u5 q53) ((hod'.upd u5 q53).mono v3.size)
end

section
variable {b : Sl} {l : List Int} {w : World} {R : SV → World → Prop}
def wid (l : List Int) : List Int := l ++ [91, 92, 93]
theorem c19 (h : SeesB w b l) (hl : l.length ≤ 140737488355320) (k : ∀ s w1, Upd [] [] w w1 → SeesB w1 s (wid l) → Own w.heap.size 1 w1 s → R (.slice s) w1) : Ret Tryd.prog 19 [.slice b] w R := by
  refine f19_of _ _ _ ?_
  unfold vc19
  refine c23 h (by omega) fun s w1 u1 hs ho => ⟨_, rfl, ?_⟩
  intro b2 w2 u2 hr2
  refine append_own (c := cU8) (new := [91, 92, 93]) (hs.old u2) (ho.old u2) (rowB hr2 _ rfl rfl) (u1.then u2).size (by simp) (by decide) (by simp; omega) fun r w3 hr ho3 u3 _ => ?_
  exact k r w3 ((u1.then u2).step0 u3 (fun x hx => (ho.blk x hx).1)) hr ho3
theorem wid_len (l : List Int) : (wid l).length = l.length + 3 := by simp [wid]
theorem wid_in {w' : World} {a : Sl} (h : SeesB w' a (wid l)) (hc : a.len ≤ a.cap) : SeesB w' (a.sub 1 0 l.length a.cap) l := by
  have hl := h.len
  rw [wid_len] at hl
  have := h.subB (lo := 0) (hi := l.length) (mx := a.cap) (by omega) (by rw [wid_len]; omega) (by omega)
  simpa [wid] using this
/-- a wide list that holds the bytes and the marks -/
theorem c22T {a : Sl} (ha : SeesB w a (wid l)) (hb : SeesB w b l) (hc : a.len ≤ a.cap) (hl : l.length ≤ 140737488355328) (hB : Byt l) (k : R (.bool true) w) : Ret Tryd.prog 22 [.slice a, .slice b] w R := by
  refine f22_of _ _ _ _ ?_
  unfold vc22
  have hal := ha.len
  have hbl := hb.len
  rw [wid_len] at hal
  rw [wr_i64 (x := (b.len : Int) + 3) (by omega) (by omega), wr_i64 (x := (b.len : Int) + 1) (by omega) (by omega), wr_i64 (x := (b.len : Int) + 2) (by omega) (by omega)]
  refine brt (by simp; omega) (need (by simp; omega) ?_)
  rw [Int.toNat_natCast, hbl]
  refine c24 (wid_in ha hc) hb hB hB ⟨_, rfl, ?_⟩
  have g : ∀ i : Nat, i < 3 → bt (wid l) (((l.length + i : Nat)) : Int) = bt [91, 92, 93] (i : Int) := fun i hi => bt_app_r l _ i
  have hw := wid_len l
  rw [decide_eq_true rfl]
  refine brt rfl (needB ha (by omega) (by omega) ⟨91, by rw [byteC ha _ (by omega)]; exact congrArg (fun x => some (Value.int .u8 x)) (g 0 (by omega)), brt rfl ?_⟩)
  refine needB ha (by omega) (by omega) ⟨92, by rw [show ((l.length : Int) + 1).toNat = l.length + 1 by omega, byteC ha _ (by omega)]; exact congrArg (fun x => some (Value.int .u8 x)) (g 1 (by omega)), brt rfl ?_⟩
  refine needB ha (by omega) (by omega) ⟨93, by rw [show ((l.length : Int) + 2).toNat = l.length + 2 by omega, byteC ha _ (by omega)]; exact congrArg (fun x => some (Value.int .u8 x)) (g 2 (by omega)), k⟩
end

theorem pl_err0 {w : World} {R : SV → World → Prop} (hg : Sees cI64 w wid4 widths4) (k : ∀ w1, Upd [] [] w w1 → R (.bool true) w1) : Ret Tryd.prog 18 [] w R := by
  refine f18_of _ _ ?_
  unfold vc18
  refine c57 fun d b w1 u1 hd hb hc => ⟨_, _, _, _, _, _, _, _, _, _, _, _, _, _, rfl, ?_⟩
  intro b2 w2 u2
  have v2 := u1.then u2
  refine c25 (os := []) (hg.old v2) (Opts.nil _ _ _) (by simp [plV]) (by simp [plV]) (hd.old u2) (by simp [plV]) pl_fit fun r w3 u3 hr ho => ⟨_, _, rfl, kp u3, ?_⟩
  have v3 := v2.then u3
  have hb3 := (hb.old u2).old u3
  have hplb : Byt plL := by simp [Byt, plL]
  refine c20 (hg.old v3) hb3 hplb hc (by simp [plL]) fun v4 s4 w4 hv4 u4 hs4 ho4 => ⟨_, _, _, _, _, _, _, _, _, _, _, _, _, _, rfl, kp u4, ?_⟩
  have v4' := v3.then u4
  intro b5 w5 u5
  have v5 := v4'.then u5
  refine c20 (l := []) (hg.old v5) (Sees.nil _ _ _ _) (by simp [Byt]) (Nat.le_refl _) (by simp) fun v6 s6 w6 hv6 u6 hs6 ho6 => ⟨_, _, _, _, _, _, _, _, _, _, _, _, _, _, rfl, kp u6, ?_⟩
  have v6' := v5.then u6
  intro b8 w7 u7
  have v7 := v6'.then u7
  rw [pl_chk, pl_err, nil_err]
  refine c21 ⟨_, rfl, kp (Upd.refl _), brt rfl (c21 ⟨_, rfl, kp (Upd.refl _), brt rfl (c21 ⟨_, rfl, kp (Upd.refl _), brt rfl ?_⟩)⟩)⟩
  have t37 := (((u4.then u5).then u6).then u7)
  have hr7 := hr.old t37
  unfold serL at hr7
  rw [if_pos pl_chk, pl_ser] at hr7
  refine c24 (hb3.old t37) hr7 hplb hplb ⟨_, rfl, kp (Upd.refl _), brt (by simp) ?_⟩
  have hO := osOf_opts hplb (hb3.old u4) hs4
  have hD := dOf_sees (hb3.old u4)
  have he := hv4.trans pl_eq
  have t47 := (u5.then u6).then u7
  refine c29T he (by rw [hv4.opts]; exact hO.old t47) (Opts.nil _ _ _) (by rw [he.opts]; simp [plV]) (by rw [he.opts]; simp [plV]) (by rw [hv4.data]; exact hD.old t47) ((hd.old (u2.then u3)).old t37) (by rw [he.data]; simp [plV, Byt]) fun w8 u8 => ⟨_, rfl, kp u8, k _ (v7.then u8)⟩
end Go.Vc.S6
end

section
open Go Go.Vc Go.Proofs Go.ChangeShapes Go.WideShapes Go.ChangeAt Go.RowKit
set_option linter.unusedVariables false
set_option maxRecDepth 100000
namespace Go.Proofs.YtlohkdkgpajkaaaDoor
theorem own : ownKnob Tryd.prog.godebug = none := by kernel_rfl
theorem laidOut : laidOutB Tryd.prog = true := by kernel_rfl
theorem gTab : Tryd.prog.globalNamed "weir/ip4.widths" = some 0 := by kernel_rfl
theorem gTabType : (Tryd.prog.globals[0]?).map (·.type) = some 95 := by kernel_rfl
theorem cells95 : Tryd.prog.cellsOf 95 = 12 := by kernel_rfl
theorem cells3 : Tryd.prog.cellsOf 3 = 1 := by kernel_rfl
theorem und95 : Tryd.prog.underlying 95 = some (.array 12 3) := by kernel_rfl
theorem und3 : Tryd.prog.underlying 3 = some (.int .i64) := by kernel_rfl
/-- what the row's list gives: the table's cells -/
theorem table {W : World} (h : laidMetH Tryd.prog [("weir/ip4.widths", Rows.laid_weir_ip4_widths)] W) : Sees cI64 W S6.wid4 S6.widths4 := by
  have ht : Lib.TabIs Tryd.prog W "weir/ip4.widths" .i64 S6.widths4 := Lib.tabIs_of_head (rest := []) gTab gTabType und95 und3 cells3 cells95 h
  refine ⟨rfl, fun i hi => ?_⟩
  have hi' : i < 12 := hi
  have := ht.cell gTab i hi'
  rw [add_none, Nat.zero_add, this]
  rcases (by omega : i = 0 ∨ i = 1 ∨ i = 2 ∨ i = 3 ∨ i = 4 ∨ i = 5 ∨ i = 6 ∨ i = 7 ∨ i = 8 ∨ i = 9 ∨ i = 10 ∨ i = 11) with rfl | rfl | rfl | rfl | rfl | rfl | rfl | rfl | rfl | rfl | rfl | rfl <;> rfl
/-- a world for the witness: the settled one, with the table -/
noncomputable def laidWorld (os : Os) : World :=
  { World.holding Tryd.prog os ⟨#[], #[], []⟩ with heap := (World.holding Tryd.prog os ⟨#[], #[], []⟩).heap.modify 0 fun
      | .cells _ t frozen => .cells #[.int .i64 4, .int .i64 4, .int .i64 8, .int .i64 16, .int .i64 16, .int .i64 1, .int .i64 1, .int .i64 1, .int .i64 13, .int .i64 8, .int .i64 8, .int .i64 16] t frozen
      | o => o }
end Go.Proofs.YtlohkdkgpajkaaaDoor
end
