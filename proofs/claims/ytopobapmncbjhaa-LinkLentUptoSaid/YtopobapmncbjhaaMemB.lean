import Derived.Test.YtopobapmncbjhaaMemA
namespace Go.Vc
set_option linter.unusedVariables false
set_option linter.unusedSimpArgs false
set_option autoImplicit false

section
variable {α : Type} {c : Cod α} {w w1 : World} {s : Sl} {l : List α}

theorem add_eq {a : Addr} (hs : a.spot = none) (i : Nat) : a.add i = ⟨a.block, a.off + i, none⟩ := by cases a; simp at hs; subst hs; exact add_none

theorem cells_write {a : Addr} {vs : List Value} (hs : a.spot = none) (o : Nat) (hex : ∀ i, i < vs.length → (w.cell? (a.add (o + i))).isSome = true) :
    Cells (w.setCells a.block (a.off + o) vs) (some (a.add o)) vs := by
  intro i hi
  rw [add_add, add_eq hs]
  have := World.cell?_setCells_in a.block vs (a.off + o) w (fun j hj => by
    have := hex j hj
    rw [add_eq hs] at this
    rwa [show a.off + o + j = a.off + (o + j) by omega]) i hi
  rwa [show a.off + o + i = a.off + (o + i) by omega] at this
theorem cells_apart {a : Addr} {x vs : List Value} (hs : a.spot = none) (o p : Nat) (h : Cells w (some (a.add p)) x) (hp : p + x.length ≤ o ∨ o + vs.length ≤ p) :
    Cells (w.setCells a.block (a.off + o) vs) (some (a.add p)) x := by
  intro i hi
  have := h i hi
  rw [add_add, add_eq hs] at this ⊢
  rw [World.cell?_setCells_out _ _ _ _ _ (fun _ _ => by simp; omega)]
  exact this

theorem off_add {a : Addr} (hs : a.spot = none) (n : Nat) : (a.add n).off = a.off + n := by rw [add_eq hs]

theorem frozen_setCells' (b o : Nat) (vs : List Value) (a : Addr) : (w.setCells b o vs).frozen? a = w.frozen? a := World.frozen?_setCells b vs o w a

theorem Own.setCells {N sz : Nat} (h : Own N sz w s) (b o : Nat) (vs : List Value) : Own N sz (w.setCells b o vs) s where
  le := h.le
  nil := h.nil
  blk b' hb := ⟨(h.blk b' hb).1, by rw [setCells_size]; exact (h.blk b' hb).2⟩
  cell a ha := ⟨(h.cell a ha).1, fun i hi => ⟨isSome_setCells' _ _ _ _ _ ((h.cell a ha).2 i hi).1, by rw [frozen_setCells']; exact ((h.cell a ha).2 i hi).2⟩⟩

theorem appendN_own {N e by_ n : Nat} {new : List α} {bs : List Nat} {F : Sl → World → Prop} (h : Sees c w s l) (o : Own N c.sz w s) (hN : N ≤ w.heap.size) (hn : n = new.length)
    (hbs : ∀ b ∈ s.blk, b ∉ bs) (hpos : 0 < by_) (hb : (l.length + new.length) * by_ ≤ 140737488355328)
    (k : ∀ r w1, Sees c w1 r (l ++ new) → Own N c.sz w1 r → Upd s.blk [] w w1 → (∀ b ∈ r.blk, b ∈ s.blk ∨ w.heap.size ≤ b) → F r w1) : AppendN e c.sz by_ s n (c.cells new) bs w F := by
  subst hn
  have hlen := h.len
  refine ⟨fun hfit => ?_, fun hgrow => ⟨?_, ?_, c.cells l, h.rowAt, fun cap b cs w1 hcap u hb1 htake hsize => ?_⟩⟩
  · cases hp : s.ptr with
    | none =>
      have h0 := o.nil hp
      have e1 : new = [] := by cases new with | nil => rfl | cons => simp at hfit; omega
      subst e1
      have el : (⟨none, s.len + ([] : List α).length, s.cap⟩ : Sl) = s := by cases s; simp at hp; subst hp; rfl
      show F ⟨none, s.len + ([] : List α).length, s.cap⟩ w
      rw [el]
      exact k s w (by simpa using h) o ((Upd.refl w).wide (by simp)) (fun b hb => .inl hb)
    | some a =>
      obtain ⟨hs, hc⟩ := o.cell a hp
      have hmul : (s.len + new.length) * c.sz ≤ s.cap * c.sz := Nat.mul_le_mul_right _ hfit
      rw [Nat.add_mul] at hmul
      have hlc := c.cells_length new
      have hll := c.cells_length l
      have hrow := h.row
      rw [hp] at hrow
      refine ⟨fun i hi => ?_, ?_, ?_⟩
      · rw [add_add]
        exact hc _ (by omega)
      · simp only [add_block]
        exact hbs _ (by simp [blk_some hp])
      · show F _ (w.setCells (a.add (s.len * c.sz)).block (a.add (s.len * c.sz)).off (c.cells new))
        rw [off_add hs, add_block]
        refine k _ _ ⟨by simp [hlen], ?_⟩ ?_ ((Upd.setCells w a.block _ _).wide (by simp [blk_some hp])) (fun b hb => .inl (by simp [blk_some hp]; simpa [Sl.blk] using hb))
        · rw [c.cells_append]
          refine Cells.mk ?_ ?_
          · have := cells_apart (vs := c.cells new) hs (s.len * c.sz) 0 (by simpa using hrow) (.inl (by rw [hll, hlen]; omega))
            simpa using this
          · rw [hll, ← hlen]
            exact cells_write hs _ (fun i hi => (hc _ (by omega)).1)
        · have := (o.setCells a.block (a.off + s.len * c.sz) (c.cells new))
          exact ⟨by simp; omega, by simp, by simpa [Sl.blk, hp] using this.blk, fun a' ha' => by simp at ha'; subst ha'; exact this.cell a hp⟩
  · have : l.length + new.length ≤ (l.length + new.length) * by_ := Nat.le_mul_of_pos_right _ hpos
    omega
  · rw [hlen]
    rw [hlen] at hgrow
    exact growslice_fits hgrow hb
  · have hll := c.cells_length l
    have hln := c.cells_length new
    have hmul : (s.len + new.length) * c.sz + (cap - (s.len + new.length)) * c.sz = cap * c.sz := by rw [← Nat.add_mul]; congr 1; omega
    rw [Nat.add_mul] at hmul
    have hsz : cs.size = cap * c.sz := by rw [hsize, hll, hln, hlen] at *; omega
    have hget : ∀ i (hi : i < (c.cells l ++ c.cells new).length), cs[i]? = some (c.cells l ++ c.cells new)[i] := by
      intro i hi
      have e1 : (cs.toList.take ((c.cells l).length + (c.cells new).length))[i]? = some (c.cells l ++ c.cells new)[i] := by rw [htake]; exact List.getElem?_eq_getElem hi
      rw [List.getElem?_take, if_pos (by simpa using hi)] at e1
      simpa using e1
    have hbn := u.new (b := b) (by simp)
    refine k _ _ ⟨by simp [hlen], ?_⟩ ?_ ((u.mono (m' := s.blk) (n' := []) (by simp) (by simp))) (fun b' hb' => by simp [Sl.blk] at hb'; subst hb'; exact .inr hbn.1)
    · rw [c.cells_append]
      intro i hi
      rw [add_none, Nat.zero_add, cell_of_block hb1]
      exact hget i hi
    · refine ⟨by simpa using hcap, by simp, fun b' hb' => ?_, fun a ha => ?_⟩
      · simp [Sl.blk] at hb'
        subst hb'
        exact ⟨Nat.le_trans hN hbn.1, hbn.2⟩
      · simp at ha
        subst ha
        refine ⟨rfl, fun i hi => ?_⟩
        rw [add_none, cell_of_block hb1, frozen_of_block hb1]
        simp at hi
        simp [hsz, hi]

/-- append to a slice without room: new memory -/
theorem appendN_full {e by_ n : Nat} {new : List α} {bs : List Nat} {F : Sl → World → Prop} (h : Sees c w s l) (hfull : s.cap ≤ s.len) (hn : n = new.length) (hn0 : 0 < n)
    (hpos : 0 < by_) (hb : (l.length + new.length) * by_ ≤ 140737488355328)
    (k : ∀ r w1, Sees c w1 r (l ++ new) → Own w.heap.size c.sz w1 r → Upd [] [] w w1 → F r w1) : AppendN e c.sz by_ s n (c.cells new) bs w F := by
  subst hn
  have hlen := h.len
  refine ⟨fun hfit => by omega, fun hgrow => ⟨?_, ?_, c.cells l, h.rowAt, fun cap b cs w1 hcap u hb1 htake hsize => ?_⟩⟩
  · have : l.length + new.length ≤ (l.length + new.length) * by_ := Nat.le_mul_of_pos_right _ hpos
    omega
  · rw [hlen]
    rw [hlen] at hgrow
    exact growslice_fits hgrow hb
  · have hll := c.cells_length l
    have hln := c.cells_length new
    have hmul : (s.len + new.length) * c.sz + (cap - (s.len + new.length)) * c.sz = cap * c.sz := by rw [← Nat.add_mul]; congr 1; omega
    rw [Nat.add_mul] at hmul
    have hsz : cs.size = cap * c.sz := by rw [hsize, hll, hln, hlen] at *; omega
    have hget : ∀ i (hi : i < (c.cells l ++ c.cells new).length), cs[i]? = some (c.cells l ++ c.cells new)[i] := by
      intro i hi
      have e1 : (cs.toList.take ((c.cells l).length + (c.cells new).length))[i]? = some (c.cells l ++ c.cells new)[i] := by rw [htake]; exact List.getElem?_eq_getElem hi
      rw [List.getElem?_take, if_pos (by simpa using hi)] at e1
      simpa using e1
    have hbn := u.new (b := b) (by simp)
    refine k _ _ ⟨by simp [hlen], ?_⟩ ?_ u.forget
    · rw [c.cells_append]
      intro i hi
      rw [add_none, Nat.zero_add, cell_of_block hb1]
      exact hget i hi
    · refine ⟨by simpa using hcap, by simp, fun b' hb' => ?_, fun a ha => ?_⟩
      · simp [Sl.blk] at hb'
        subst hb'
        exact hbn
      · simp at ha
        subst ha
        refine ⟨rfl, fun i hi => ?_⟩
        rw [add_none, cell_of_block hb1, frozen_of_block hb1]
        simp at hi
        simp [hsz, hi]

theorem append_own {N e by_ : Nat} {x : Sl} {new : List α} {bs : List Nat} {F : Sl → World → Prop} (h : Sees c w s l) (o : Own N c.sz w s) (hx : Sees c w x new) (hN : N ≤ w.heap.size)
    (hbs : ∀ b ∈ s.blk, b ∉ bs) (hpos : 0 < by_) (hb : (l.length + new.length) * by_ ≤ 140737488355328)
    (k : ∀ r w1, Sees c w1 r (l ++ new) → Own N c.sz w1 r → Upd s.blk [] w w1 → (∀ b ∈ r.blk, b ∈ s.blk ∨ w.heap.size ≤ b) → F r w1) : Append e c.sz by_ s x bs w F :=
  ⟨c.cells new, hx.rowAt, appendN_own h o hN hx.len hbs hpos hb k⟩
theorem append_full {e by_ : Nat} {x : Sl} {new : List α} {bs : List Nat} {F : Sl → World → Prop} (h : Sees c w s l) (hfull : s.cap ≤ s.len) (hx : Sees c w x new) (hn0 : 0 < new.length)
    (hpos : 0 < by_) (hb : (l.length + new.length) * by_ ≤ 140737488355328)
    (k : ∀ r w1, Sees c w1 r (l ++ new) → Own w.heap.size c.sz w1 r → Upd [] [] w w1 → F r w1) : Append e c.sz by_ s x bs w F :=
  ⟨c.cells new, hx.rowAt, appendN_full h hfull hx.len (by rw [hx.len]; exact hn0) hpos hb k⟩

/-- an element is written -/
theorem own_set {N : Nat} {i : Nat} {x : α} {vs : List Value} {bs : List Nat} {F : World → Prop} (h : Sees c w s l) (o : Own N c.sz w s) (hz : 0 < c.sz) (hi : i < l.length) (hv : vs = c.enc x) (hbs : ∀ b ∈ s.blk, b ∉ bs)
    (k : ∀ w1, Sees c w1 s (l.set i x) → Own N c.sz w1 s → Upd s.blk [] w w1 → F w1) : Store w (s.at c.sz i) vs bs F := by
  subst hv
  obtain ⟨a, hp⟩ := h.ptr_some hz (by omega)
  obtain ⟨hs, hc⟩ := o.cell a hp
  have hat : s.at c.sz i = a.add (i * c.sz) := by simp [Sl.at, hp]
  have hlen := h.len
  have hle := o.le
  have hlx := c.len x
  have hrow := h.row
  rw [hp] at hrow
  have hm : ∀ j, j < c.sz → i * c.sz + j < s.cap * c.sz := fun j hj => mul_add_lt (by omega) hj
  refine ⟨fun j hj => ?_, ?_, ?_⟩
  · rw [hat, add_add]
    exact hc _ (hm j (by omega))
  · rw [hat, add_block]
    exact hbs _ (by simp [blk_some hp])
  · rw [hat, off_add hs, add_block]
    refine k _ ⟨by simpa using hlen, ?_⟩ (o.setCells _ _ _) ((Upd.setCells w a.block _ _).wide (by simp [blk_some hp]))
    rw [hp]
    have e1 : l.set i x = l.take i ++ x :: l.drop (i + 1) := by rw [List.set_eq_take_append_cons_drop, if_pos hi]
    have e2 : l = l.take i ++ l.drop i := (List.take_append_drop i l).symm
    have e3 : l.drop i = l[i] :: l.drop (i + 1) := List.drop_eq_getElem_cons hi
    rw [e1, c.cells_append, c.cells_cons]
    have h1 : (c.cells (l.take i)).length = i * c.sz := by rw [c.cells_length, List.length_take]; congr 1; omega
    have hrow' : Cells w (some a) (c.cells (l.take i) ++ (c.enc l[i] ++ c.cells (l.drop (i + 1)))) := by
      rw [← c.cells_cons, ← e3, ← c.cells_append, ← e2]; exact hrow
    obtain ⟨r1, r2⟩ := hrow'.app
    obtain ⟨r3, r4⟩ := r2.app
    rw [h1] at r4
    rw [add_add, c.len] at r4
    refine Cells.mk ?_ (Cells.mk ?_ ?_)
    · have := cells_apart (vs := c.enc x) hs (i * c.sz) 0 (by simpa using r1) (.inl (by omega))
      simpa using this
    · rw [h1]
      exact cells_write hs _ (fun j hj => (hc _ (hm j (by omega))).1)
    · rw [h1, add_add, hlx]
      exact cells_apart hs _ _ r4 (.inr (by omega))

/-- a new row -/
theorem sees_row {b e n cap : Nat} {f : Nat × Nat} {cs : List Value} (h : w.heap[b]? = some (.cells cs.toArray e f)) (l : List α) (hl : cs = c.cells l) (hn : n = l.length) : Sees c w ⟨some ⟨b, 0, none⟩, n, cap⟩ l := by
  subst hl hn
  refine ⟨rfl, fun i hi => ?_⟩
  rw [add_none, cell_of_block h]
  simp [hi]
theorem own_row {N b e n cap : Nat} {cs : List Value} {sz : Nat} (h : w.heap[b]? = some (.cells cs.toArray e (0, 0))) (hN : N ≤ b) (hl : cs.length = cap * sz) (hn : n ≤ cap) : Own N sz w ⟨some ⟨b, 0, none⟩, n, cap⟩ where
  le := hn
  nil := by simp
  blk b' hb := by simp [Sl.blk] at hb; subst hb; exact ⟨hN, (Array.getElem?_eq_some_iff.1 h).1⟩
  cell a ha := by
    simp at ha
    subst ha
    refine ⟨rfl, fun i hi => ?_⟩
    rw [add_none, cell_of_block h, frozen_of_block h]
    simp at hi
    simp [hl, hi]

theorem copy_own {N : Nat} {x : Sl} {m : List α} {bs : List Nat} {F : World → Prop} (h : Sees c w s l) (o : Own N c.sz w s) (hx : Sees c w x m) (hbs : ∀ b ∈ s.blk, b ∉ bs)
    (k : ∀ w1, Sees c w1 s (m.take l.length ++ l.drop m.length) → Own N c.sz w1 s → Upd s.blk [] w w1 → F w1) : Copy c.sz s x bs w F := by
  have hlen := h.len
  have hxl := hx.len
  have hle := o.le
  refine ⟨c.cells (m.take l.length), ?_, ?_⟩
  · have := (hx.take (n := min m.length l.length) (by omega) 0).rowAt
    rw [show Nat.min x.len s.len = min m.length l.length by rw [hxl, hlen]]
    have e : m.take (min m.length l.length) = m.take l.length := by rw [List.take_eq_take_iff]; omega
    rw [e] at this
    exact this
  · cases hp : s.ptr with
    | none =>
      have h0 := o.nil hp
      have e1 : l = [] := by cases l with | nil => rfl | cons => simp at hlen; omega
      subst e1
      simp only
      exact k w (by simpa using h) o ((Upd.refl w).wide (by simp))
    | some a =>
      obtain ⟨hs, hc⟩ := o.cell a hp
      have hrow := h.row
      rw [hp] at hrow
      have h1 : (c.cells (m.take l.length)).length = min l.length m.length * c.sz := by rw [c.cells_length, List.length_take]
      have hm : (c.cells (m.take l.length)).length ≤ s.cap * c.sz := by rw [h1]; exact Nat.mul_le_mul_right _ (by omega)
      refine ⟨fun i hi => hc i (by omega), hbs _ (by simp [blk_some hp]), ?_⟩
      refine k _ ⟨by simp; omega, ?_⟩ (o.setCells _ _ _) ((Upd.setCells w a.block _ _).wide (by simp [blk_some hp]))
      rw [hp, c.cells_append]
      refine Cells.mk ?_ ?_
      · have := cells_write (w := w) (vs := c.cells (m.take l.length)) hs 0 (fun i hi => by simpa using (hc i (by omega)).1)
        simpa using this
      · have hd : l.drop m.length = l.drop (min l.length m.length) := by
          by_cases g : m.length ≤ l.length
          · rw [Nat.min_eq_right g]
          · rw [List.drop_of_length_le (by omega), List.drop_of_length_le (by omega)]
        rw [hd, h1]
        have e2 : Cells w (some a) (c.cells (l.take (min l.length m.length)) ++ c.cells (l.drop (min l.length m.length))) := by rw [← c.cells_append, List.take_append_drop]; exact hrow
        have r := e2.app.2
        have h2 : (c.cells (l.take (min l.length m.length))).length = min l.length m.length * c.sz := by rw [c.cells_length, List.length_take]; congr 1; omega
        rw [h2] at r
        have := cells_apart (vs := c.cells (m.take l.length)) hs 0 _ r (.inr (by omega))
        simpa using this
end

theorem Cod.cells_map1 {α : Type} {c : Cod α} {g : α → Value} (h : ∀ x, c.enc x = [g x]) : ∀ (l : List α), c.cells l = l.map g
  | [] => rfl
  | x :: l => by rw [Cod.cells_cons, h, Cod.cells_map1 h l]; rfl

/-! ### bytes -/
def cU8 : Cod Int := ⟨1, fun n => [.int .u8 n], fun _ => rfl, by simp [Value.oneCell']⟩
def cI64 : Cod Int := ⟨1, fun n => [.int .i64 n], fun _ => rfl, by simp [Value.oneCell']⟩
def cSl : Cod Sl := ⟨1, fun s => [s.val], fun _ => rfl, by simp [Value.oneCell', Sl.val]⟩
abbrev SeesB (w : World) (s : Sl) (l : List Int) : Prop := Sees cU8 w s l
/-- the byte at a place (0 outside) -/
def bt (l : List Int) (i : Int) : Int := l.getD i.toNat 0
def Byt (l : List Int) : Prop := ∀ x ∈ l, 0 ≤ x ∧ x < 256
theorem Byt.bt {l : List Int} (h : Byt l) (i : Int) : 0 ≤ bt l i ∧ bt l i < 256 := by
  unfold Go.Vc.bt
  rw [List.getD_eq_getElem?_getD]
  by_cases hi : i.toNat < l.length
  · rw [List.getElem?_eq_getElem hi]; exact h _ (List.getElem_mem hi)
  · rw [List.getElem?_eq_none (by omega)]; simp
theorem Byt.app {l m : List Int} (h : Byt l) (k : Byt m) : Byt (l ++ m) := fun x hx => by rcases List.mem_append.1 hx with h' | h'; exact h x h'; exact k x h'
theorem Byt.nil : Byt [] := by simp [Byt]
theorem Byt.take {l : List Int} (h : Byt l) (n : Nat) : Byt (l.take n) := fun x hx => h x (List.mem_of_mem_take hx)
theorem Byt.drop {l : List Int} (h : Byt l) (n : Nat) : Byt (l.drop n) := fun x hx => h x (List.mem_of_mem_drop hx)
theorem Byt.set {l : List Int} (h : Byt l) (n : Nat) {v : Int} (hv : 0 ≤ v ∧ v < 256) : Byt (l.set n v) := fun x hx => by
  rcases List.mem_or_eq_of_mem_set hx with h' | h'
  · exact h x h'
  · subst h'; exact hv
theorem Sees.byte {w : World} {s : Sl} {l : List Int} (h : Sees cU8 w s l) {i : Int} (h0 : 0 ≤ i) (hi : i < l.length) : w.cell? (s.at 1 i.toNat) = some (.int .u8 (bt l i)) := by
  have := h.elem (i := i.toNat) (by omega) 0 (by simp [cU8])
  rw [add_zero] at this
  rw [show cU8.sz = 1 from rfl] at this
  rw [this]
  simp [cU8, bt, List.getD_eq_getElem?_getD, List.getElem?_eq_getElem (show i.toNat < l.length by omega)]
theorem Sees.subB {w : World} {s : Sl} {l : List Int} (h : Sees cU8 w s l) {lo hi mx : Nat} (h1 : lo ≤ hi) (h2 : hi ≤ l.length) (h3 : hi ≤ mx) : Sees cU8 w (s.sub 1 lo hi mx) ((l.take hi).drop lo) := h.sub h1 h2 h3
end Go.Vc
