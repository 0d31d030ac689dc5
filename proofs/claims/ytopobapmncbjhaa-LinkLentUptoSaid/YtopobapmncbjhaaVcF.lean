import Derived.Test.YtopobapmncbjhaaVcE
namespace Go.Vc
set_option linter.unusedSimpArgs false
set_option linter.unusedVariables false
set_option autoImplicit false

def Operand.isTmp : Operand → Bool | .tmp _ => true | _ => false

section
variable {X : Tab} (ok : TabOK X) {s : St} {o : Oper} {ρ : Operand → Value} (hρ : ∀ x v, s.ev x = some v → RelV X s (ρ x) v) {F : SV → Prop}

theorem evs_sound (hρ : ∀ x v, s.ev x = some v → RelV X s (ρ x) v) : ∀ {xs : List Operand} {l : List SV}, s.evs xs = some l → allPlain l = true → xs.map ρ = SV.encL l
  | [], l, h, _ => by simp [St.evs] at h; subst h; simp [SV.encL]
  | x :: r, l, h, hp => by
    simp only [St.evs] at h
    cases h1 : s.ev x with
    | none => simp [h1] at h
    | some a =>
      cases h2 : s.evs r with
      | none => simp [h1, h2] at h
      | some m =>
        simp [h1, h2] at h; subst h
        simp only [allPlain, Bool.and_eq_true] at hp
        have := hρ x a h1
        rw [relv_plain hp.1] at this
        simp [SV.encL, this, evs_sound hρ h2 hp.2]

theorem evParts_sound (hρ : ∀ x v, s.ev x = some v → RelV X s (ρ x) v) : ∀ {xs : List (Nat × Operand)} {l : List (Nat × SV)}, s.evParts xs = some l → (∀ p ∈ l, plain p.2 = true) → (xs.map fun (p : Nat × Operand) => (p.1, ρ p.2)) = l.map fun p => (p.1, p.2.enc)
  | [], l, h, _ => by simp [St.evParts] at h; subst h; simp
  | (i, x) :: r, l, h, hp => by
    simp only [St.evParts] at h
    cases h1 : s.ev x with
    | none => simp [h1] at h
    | some a =>
      cases h2 : s.evParts r with
      | none => simp [h1, h2] at h
      | some m =>
        simp [h1, h2] at h; subst h
        have := hρ x a h1
        rw [relv_plain (hp (i, a) (by simp))] at this
        simp [this, evParts_sound hρ h2 (fun p hm => hp p (by simp [hm]))]

theorem buildSV_plain : ∀ {t : Ty} {l : List (Nat × SV)} {c z : SV}, buildSV t z l = some c → ∀ p ∈ l, plain p.2 = true
  | t, [], c, z, h => by simp
  | t, (i, x) :: r, c, z, h => by
    simp only [buildSV] at h
    split at h
    · split at h
      · rename_i hs
        split at h
        · intro p hp
          rcases List.mem_cons.1 hp with rfl | hp
          · exact shape_plain hs
          · exact buildSV_plain h p hp
        · cases h
      · cases h
    · cases h

def placeOff (t : Ty) (i : Nat) : Nat := match t with | .struct _ ts => Ty.off ts i | _ => i

/-- what 'fill' does to the cells is what 'buildSV' does to the value -/
theorem fill_sound {place : Nat → Option (Nat × Nat)} {t : Ty} (hplace : ∀ i u, partTy t i = some u → place i = some (placeOff t i, u.size)) :
    ∀ {l : List (Nat × SV)} {z c : SV}, z.shape t = true → buildSV t z l = some c →
      c.shape t = true ∧ Instr.fill place z.cells.toArray (l.map fun p => (p.1, p.2.enc)) = some c.cells.toArray
  | [], z, c, hz, h => by simp [buildSV] at h; subst h; exact ⟨hz, by simp [Instr.fill]⟩
  | (i, x) :: r, z, c, hz, h => by
    simp only [buildSV] at h
    split at h
    · rename_i u hu
      split at h
      · rename_i hs
        split at h
        · rename_i c' hc'
          have hpl := hplace i u hu
          have key : c'.shape t = true ∧ ∃ pre old post, z.cells = pre ++ old ++ post ∧ old.length = x.cells.length ∧ pre.length = placeOff t i ∧ c'.cells = pre ++ x.cells ++ post := by
            cases t with
            | struct b ts =>
              cases z with
              | struct l0 =>
                simp [SV.shape] at hz
                simp only [partTy] at hu
                obtain ⟨y, hy, hys⟩ := nth_some_of_shapes hz hu
                obtain ⟨u', hu', _, pre, post, h1, h2, h3⟩ := nth_split hz hy
                rw [hu] at hu'; obtain rfl : u = u' := by simpa using hu'
                simp [setPart] at hc'
                subst hc'
                exact ⟨by simp [SV.shape, shapes_set hz hu hs], pre, y.cells, post, by simp [SV.cells, h1], by rw [shape_size hys, shape_size hs], h2, by simp [SV.cells, h3]⟩
              | _ => simp [SV.shape] at hz
            | arr k n =>
              cases z with
              | arr k' n' f =>
                simp [SV.shape] at hz
                obtain ⟨hk, rfl⟩ := hz
                obtain rfl := ksame_eq hk
                simp only [partTy] at hu
                split at hu
                · rename_i hlt
                  obtain rfl : Ty.int k' = u := by simpa using hu
                  cases x with
                  | int k2 v =>
                    simp [SV.shape] at hs
                    obtain rfl := ksame_eq hs
                    simp [setPart] at hc'
                    subst hc'
                    have hlt' : i < n' := by simpa [Nat.blt_eq] using hlt
                    obtain ⟨y, hy, hys, pre, post, g1, g2, g3⟩ := path_get (c := .arr k2 n' f) (t := .arr k2 n') (p := [i]) (off := i) (u := .int k2) (by simp [SV.shape, ksame_refl]) ⟨hlt', rfl, rfl⟩
                    obtain ⟨g4, g5⟩ := g3 (.int k2 v) _ (by simp [SV.shape, ksame_refl]) rfl
                    exact ⟨g4, pre, y.cells, post, g1, by rw [shape_size hys]; simp [SV.cells, Ty.size], g2, g5⟩
                  | _ => simp [SV.shape] at hs
                · cases hu
              | _ => simp [SV.shape] at hz
            | _ => simp [partTy] at hu
          obtain ⟨hc's, pre, old, post, e1, e2, e3, e4⟩ := key
          obtain ⟨ih1, ih2⟩ := fill_sound hplace hc's h
          refine ⟨ih1, ?_⟩
          simp only [List.map_cons, Instr.fill, hpl]
          have hxs : x.enc.cells.size = u.size := by rw [enc_cells hs]; simp [shape_size hs]
          rw [if_neg (by
            simp only [hxs, ne_eq, not_true_eq_false, decide_false, Bool.false_or, decide_eq_true_eq, decide_not, decide_true, Bool.not_true]
            have hu' := shape_size hs
            simp only [e1, List.size_toArray, List.length_append, e2, ← e3]
            omega)]
          rw [← ih2]
          congr 1
          rw [enc_cells hs, e1, e4, ← e3]
          -- writing the cells one by one
          have wr : ∀ (xs pre old post : List Value), old.length = xs.length → ∀ (k : Nat),
              (xs.zipIdx k).foldl (fun (cs : Array Value) (p : Value × Nat) => cs.setIfInBounds (pre.length + (p.2 - k)) p.1) (pre ++ old ++ post).toArray = (pre ++ xs ++ post).toArray := by
            intro xs
            induction xs with
            | nil => intro pre old post h k; simp at h; subst h; simp
            | cons v vs ih =>
              intro pre old post h k
              cases old with
              | nil => simp at h
              | cons w ws =>
                simp only [List.zipIdx_cons, List.foldl_cons]
                have e : ((pre ++ w :: ws ++ post).toArray).setIfInBounds (pre.length + (k - k)) v = (pre ++ [v] ++ ws ++ post).toArray := by
                  apply Array.ext'
                  simp
                rw [e]
                have := ih (pre ++ [v]) ws post (by simpa using h) (k + 1)
                rw [show pre ++ v :: vs ++ post = pre ++ [v] ++ vs ++ post by simp, ← this]
                have hall : ∀ p ∈ vs.zipIdx (k + 1), k + 1 ≤ p.2 := fun p hp => (List.mem_zipIdx hp).1
                generalize vs.zipIdx (k + 1) = ps at hall
                generalize (pre ++ [v] ++ ws ++ post).toArray = cs
                induction ps generalizing cs with
                | nil => rfl
                | cons p ps ihp =>
                  have hk := hall p (by simp)
                  have e : pre.length + (p.2 - k) = (pre ++ [v]).length + (p.2 - (k + 1)) := by simp; omega
                  simp only [List.foldl_cons, e]
                  exact ihp (fun q hq => hall q (by simp [hq])) _
          have := wr x.cells pre old post e2 0
          simp only [Nat.sub_zero] at this
          rw [← this]
          simp [List.foldl_toArray]
        · cases h
      · cases h
    · cases h
end
end Go.Vc
