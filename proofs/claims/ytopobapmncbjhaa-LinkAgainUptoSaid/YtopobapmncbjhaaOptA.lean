import Derived.Test.YtopobapmncbjhaaG4
import Derived.Test.YtopobapmncbjhaaG5
import Derived.Test.YtopobapmncbjhaaRowB
namespace Go.Vc
set_option linter.unusedVariables false
set_option linter.unusedSimpArgs false
set_option autoImplicit false

/-! ### options: a kind and bytes -/
structure Opt where
  kind : Int
  data : List Int
  deriving DecidableEq
def cOpt : Cod (Int × Sl) := ⟨2, fun p => [.int .i64 p.1, p.2.val], fun _ => rfl, by simp [Value.oneCell', Sl.val]⟩
/-- a slice of options -/
structure Opts (w : World) (s : Sl) (l : List Opt) (os : List (Int × Sl)) : Prop where
  row : Sees cOpt w s os
  len : os.length = l.length
  kind : ∀ i (h : i < l.length), (os[i]'(by rw [len]; exact h)).1 = l[i].kind
  each : ∀ i (h : i < l.length), SeesB w (os[i]'(by rw [len]; exact h)).2 l[i].data

section
variable {w w1 : World} {s : Sl} {l : List Opt} {os : List (Int × Sl)}
theorem Opts.slen (h : Opts w s l os) : s.len = l.length := by rw [h.row.len, h.len]
theorem Opts.nil (w : World) (p : Option Addr) (cap : Nat) : Opts w ⟨p, 0, cap⟩ [] [] := ⟨Sees.nil _ _ _ _, rfl, by simp, by simp⟩
theorem Opts.upd {m n : List Nat} (h : Opts w s l os) (u : Upd m n w w1) (h1 : ∀ b ∈ s.blk, b ∉ m) (h2 : ∀ x ∈ os, ∀ b ∈ x.2.blk, b ∉ m) : Opts w1 s l os where
  row := h.row.upd u h1
  len := h.len
  kind := h.kind
  each i hi := (h.each i hi).upd u (h2 _ (List.getElem_mem _))
theorem Opts.old {n : List Nat} (h : Opts w s l os) (u : Upd [] n w w1) : Opts w1 s l os := h.upd u (by simp) (by simp)
theorem Opts.upd' {w0 : World} {m n : List Nat} (h0 : Opts w0 s l os) (h : Opts w s l os) (u : Upd m n w w1) (hm : ∀ b ∈ m, w0.heap.size ≤ b) : Opts w1 s l os :=
  ⟨h0.row.upd' h.row u hm, h.len, h.kind, fun i hi => (h0.each i hi).upd' (h.each i hi) u hm⟩
/-- an option's cells -/
theorem Opts.get (h : Opts w s l os) (i : Nat) (hi : i < l.length) :
    w.cell? (s.at 2 i) = some (.int .i64 (l[i]).kind) ∧ w.cell? ((s.at 2 i).add 1) = some ((os[i]'(by rw [h.len]; exact hi)).2).val ∧ SeesB w (os[i]'(by rw [h.len]; exact hi)).2 l[i].data ∧ s.ptr.isSome = true := by
  have hi' : i < os.length := by rw [h.len]; exact hi
  have he := h.row.elem hi'
  have h1 := he 0 (by simp [cOpt])
  have h2 := he 1 (by simp [cOpt])
  rw [add_zero] at h1
  rw [show cOpt.sz = 2 from rfl] at h1 h2
  refine ⟨?_, h2, h.each i hi, h.row.isSome (by decide) (by omega)⟩
  rw [h1]
  simp [cOpt, h.kind i hi]
theorem needO {X : Prop} (h : Opts w s l os) {i : Int} (h0 : 0 ≤ i) (h1 : i < l.length) (x : X) : Need (decide (0 ≤ i) && decide (i < (s.len : Int)) && s.ptr.isSome) X :=
  needIx h0 (by rw [h.slen]; exact h1) (h.get i.toNat (by omega)).2.2.2 x
theorem needO' {X : Prop} (h : Opts w s l os) {i : Int} (h0 : 0 ≤ i) (h1 : i < l.length) (x : X) : Need (decide (0 ≤ i) && decide (i < (l.length : Int)) && s.ptr.isSome) X :=
  needIx h0 h1 (h.get i.toNat (by omega)).2.2.2 x
/-- one more option -/
theorem Opts.snoc {r : Sl} {o : Opt} {x : Sl} (h : Opts w s l os) (hr : Sees cOpt w1 r (os ++ [(o.kind, x)])) (hx : SeesB w1 x o.data) (he : ∀ i (h2 : i < l.length), SeesB w1 (os[i]'(by rw [h.len]; exact h2)).2 l[i].data) : Opts w1 r (l ++ [o]) (os ++ [(o.kind, x)]) where
  row := hr
  len := by simp [h.len]
  kind i hi := by
    by_cases e : i < l.length
    · have hl := h.len
      rw [List.getElem_append_left (by omega), List.getElem_append_left (by omega)]; exact h.kind i e
    · have : i = l.length := by simp at hi; omega
      subst this
      have hl := h.len
      rw [List.getElem_append_right (by omega), List.getElem_append_right (by omega)]
      simp [h.len]
  each i hi := by
    by_cases e : i < l.length
    · have hl := h.len
      rw [List.getElem_append_left (by omega), List.getElem_append_left (by omega)]; exact he i e
    · have : i = l.length := by simp at hi; omega
      subst this
      have hl := h.len
      rw [List.getElem_append_right (by omega), List.getElem_append_right (by omega)]
      simp [h.len]
      exact hx
theorem Opts.take (h : Opts w s l os) {n : Nat} (hn : n ≤ l.length) (cap : Nat) : Opts w ⟨s.ptr, n, cap⟩ (l.take n) (os.take n) where
  row := h.row.take (by rw [h.len]; exact hn) cap
  len := by simp [h.len]
  kind i hi := by simp at hi; simp only [List.getElem_take]; exact h.kind i (by omega)
  each i hi := by simp at hi; simp only [List.getElem_take]; exact h.each i (by omega)
end

/-! ### options read -/
/-- where the options stand: each one's place and end. ok: may kind and length be? -/
def opos (ok : Int → Int → Bool) (l : List Int) : Nat → Nat → List (Nat × Nat) → Option (List (Nat × Nat))
  | 0, _, _ => none
  | f + 1, t, acc =>
    if l.length ≤ t then some acc
    else if bt l (t : Int) = 0 then some acc
    else if bt l (t : Int) = 1 then opos ok l f (t + 1) acc
    else if t + 1 = l.length then none
    else if ok (bt l (t : Int)) (bt l ((t + 1 : Nat) : Int)) = false then none
    else if l.length < t + (bt l ((t + 1 : Nat) : Int)).toNat then none
    else opos ok l f (t + (bt l ((t + 1 : Nat) : Int)).toNat) (acc ++ [(t, t + (bt l ((t + 1 : Nat) : Int)).toNat)])
def optsP (ok : Int → Int → Bool) (l : List Int) : Option (List (Nat × Nat)) := if 40 < l.length then none else opos ok l (l.length + 1) 0 []
def optAt (l : List Int) (p : Nat × Nat) : Opt := ⟨bt l (p.1 : Int), (l.take p.2).drop (p.1 + 2)⟩
/-- the slices of the options' data, windows of b -/
def osAt (b : Sl) (l : List Int) (p : Nat × Nat) : Int × Sl := (bt l (p.1 : Int), b.sub 1 (p.1 + 2) p.2 p.2)
/-- may these be the places of options? -/
def Places (l : List Int) (ps : List (Nat × Nat)) : Prop := ∀ p ∈ ps, p.1 + 2 ≤ p.2 ∧ p.2 ≤ l.length ∧ bt l ((p.1 + 1 : Nat) : Int) = ((p.2 - p.1 : Nat) : Int) ∧ bt l (p.1 : Int) ≠ 0 ∧ bt l (p.1 : Int) ≠ 1
theorem opos_places {ok : Int → Int → Bool} (hok : ∀ k n, ok k n = true → 2 ≤ n) {l : List Int} (hb : Byt l) : ∀ (f t : Nat) (acc ps : List (Nat × Nat)), Places l acc → opos ok l f t acc = some ps → Places l ps
  | 0, t, acc, ps, ha, h => by simp [opos] at h
  | f + 1, t, acc, ps, ha, h => by
    unfold opos at h
    split at h
    · injection h with h; subst h; exact ha
    split at h
    · injection h with h; subst h; exact ha
    split at h
    · exact opos_places hok hb f _ _ _ ha h
    split at h
    · cases h
    split at h
    · cases h
    rename_i h5
    split at h
    · cases h
    rename_i h6
    have h7 := hok (bt l (t : Int)) (bt l ((t + 1 : Nat) : Int)) (by simpa using h5)
    refine opos_places hok hb f _ _ _ (fun p hp => ?_) h
    rcases List.mem_append.1 hp with hp | hp
    · exact ha p hp
    · rw [List.mem_singleton] at hp
      subst hp
      refine ⟨?_, ?_, ?_, ?_, ?_⟩
      · show t + 2 ≤ t + _
        omega
      · show t + _ ≤ _
        omega
      · show bt l ((t + 1 : Nat) : Int) = _
        rw [Nat.add_sub_cancel_left]; omega
      · assumption
      · assumption
theorem optsP_places {ok : Int → Int → Bool} (hok : ∀ k n, ok k n = true → 2 ≤ n) {l : List Int} (hb : Byt l) {ps : List (Nat × Nat)} (h : optsP ok l = some ps) : Places l ps ∧ l.length ≤ 40 := by
  unfold optsP at h
  split at h
  · cases h
  · exact ⟨opos_places hok hb _ _ _ _ (by simp [Places]) h, by omega⟩
/-- the options out of places: windows -/
theorem opts_win {w : World} {b s : Sl} {l : List Int} {ps : List (Nat × Nat)} (hs : Sees cOpt w s (ps.map (osAt b l))) (hb : SeesB w b l) (hp : Places l ps) : Opts w s (ps.map (optAt l)) (ps.map (osAt b l)) where
  row := hs
  len := by simp
  kind i hi := by simp [osAt, optAt]
  each i hi := by
    simp only [List.getElem_map, osAt, optAt]
    have := hp _ (List.getElem_mem (by simpa using hi : i < ps.length))
    exact hb.subB (by omega) this.2.1 (Nat.le_refl _)

/-! ### options written -/
def optB (o : Opt) : List Int := [o.kind % 256, ((2 + o.data.length : Nat) : Int) % 256] ++ o.data
def pad4 (b : List Int) : List Int := b ++ List.replicate ((4 - b.length % 4) % 4) 0
def putO (l : List Opt) : List Int := pad4 (l.flatMap optB)
def okO (o : Opt) : Prop := 2 ≤ o.kind ∧ o.kind ≤ 255 ∧ o.data.length ≤ 38
instance (o : Opt) : Decidable (okO o) := by unfold okO; infer_instance
def putOk (l : List Opt) : Prop := (∀ o ∈ l, okO o) ∧ (l.flatMap optB).length ≤ 40
instance (l : List Opt) : Decidable (putOk l) := by unfold putOk; infer_instance
theorem optB_len (o : Opt) : (optB o).length = 2 + o.data.length := by simp [optB]; omega
theorem pad4_len (b : List Int) : (pad4 b).length % 4 = 0 ∧ b.length ≤ (pad4 b).length ∧ (pad4 b).length < b.length + 4 := by
  simp [pad4]; omega
theorem putO_len {l : List Opt} (h : putOk l) : (putO l).length ≤ 40 ∧ (putO l).length % 4 = 0 := by
  have := pad4_len (l.flatMap optB)
  have := h.2
  unfold putO
  omega
theorem optB_byt {o : Opt} (h : Byt o.data) : Byt (optB o) := by
  unfold optB
  refine Byt.app ?_ h
  simp [Byt]; omega
theorem flatMap_byt {l : List Opt} (h : ∀ o ∈ l, Byt o.data) : Byt (l.flatMap optB) := fun x hx => by
  obtain ⟨o, ho, hx⟩ := List.mem_flatMap.1 hx
  exact optB_byt (h o ho) x hx
theorem putO_byt {l : List Opt} (h : ∀ o ∈ l, Byt o.data) : Byt (putO l) := (flatMap_byt h).app (fun x hx => by have := List.eq_of_mem_replicate hx; omega)
end Go.Vc
