import Derived.Test.YtopobapmncbjhaaVcO
namespace Go.Vc
open Go.RowKit (Below)
set_option linter.unusedSimpArgs false
set_option linter.unusedVariables false
set_option autoImplicit false

/-! ### curried functions -/
mutual
def Ty.cur {R : Type} : (t : Ty) → (SV → R) → t.Fn R
  | .int k, g => fun n => g (.int k n)
  | .bool, g => fun b => g (.bool b)
  | .str, g => fun s => g (.str s)
  | .ptr _, g => fun p => g (.ptr p)
  | .slice _, g => fun s => g (.slice s)
  | .map, g => fun r => g (.map r)
  | .arr k n, g => fun f => g (.arr k n f)
  | .struct _ ts, g => Ty.curs ts fun l => g (.struct l)
  | .tuple ts, g => Ty.curs ts fun l => g (.tuple l)
  | .other, g => fun v => g (.raw v)
def Ty.curs {R : Type} : (ts : List Ty) → (List SV → R) → Ty.Fns ts R
  | [], g => g []
  | t :: r, g => t.cur fun x => Ty.curs r fun l => g (x :: l)
end

/- a value of this type, as the functions take it -/
mutual
def fits : Ty → SV → Prop
  | .int k, .int k' _ => k = k'
  | .bool, .bool _ => True
  | .str, .str _ => True
  | .ptr _, .ptr _ => True
  | .slice _, .slice _ => True
  | .map, .map _ => True
  | .arr k n, .arr k' n' _ => k = k' ∧ n = n'
  | .struct _ ts, .struct l => fitsL ts l
  | .tuple ts, .tuple l => fitsL ts l
  | .other, .raw _ => True
  | _, _ => False
def fitsL : List Ty → List SV → Prop
  | [], [] => True
  | t :: r, x :: l => fits t x ∧ fitsL r l
  | _, _ => False
end
end Go.Vc
namespace Go.Vc
theorem fits_plain {t : Ty} {x : SV} (h : fits t x) : plain x = true := by cases x <;> first | rfl | (cases t <;> simp [fits] at h)

theorem app_fits : ∀ (t : Ty) {R : Type} (f : t.Fn R) (x : SV) (r : R), t.app f x = some r → fits t x := by
  intro t
  induction t using Ty.rec (motive_2 := fun ts => ∀ {R : Type} (f : Ty.Fns ts R) (l : List SV) (r : R), Ty.apps ts f l = some r → fitsL ts l) with
  | int k => intro R f x r h; cases x <;> simp [Ty.app] at h; split at h <;> simp at h; rename_i hk; simp [fits, ksame_eq hk]
  | bool => intro R f x r h; cases x <;> simp [Ty.app] at h; simp [fits]
  | str => intro R f x r h; cases x <;> simp [Ty.app] at h; simp [fits]
  | ptr e => intro R f x r h; cases x <;> simp [Ty.app] at h; simp [fits]
  | slice e => intro R f x r h; cases x <;> simp [Ty.app] at h; simp [fits]
  | map => intro R f x r h; cases x <;> simp [Ty.app] at h; simp [fits]
  | arr k n => intro R f x r h; cases x <;> simp [Ty.app] at h; split at h <;> simp at h; rename_i hk; simp at hk; simp [fits, ksame_eq hk.1, hk.2]
  | struct b ts ih => intro R f x r h; cases x <;> simp [Ty.app] at h; simp only [fits]; exact ih _ _ _ h
  | tuple ts ih => intro R f x r h; cases x <;> simp [Ty.app] at h; simp only [fits]; exact ih _ _ _ h
  | other => intro R f x r h; cases x <;> simp [Ty.app] at h; simp [fits]
  | nil => rename_i R f l r h; cases l <;> simp [Ty.apps] at h; simp [fitsL]
  | cons t ts ih1 ih2 =>
    rename_i R f l r h
    cases l with
    | nil => simp [Ty.apps] at h
    | cons x l =>
      simp only [Ty.apps] at h
      split at h
      · rename_i g hg
        exact ⟨ih1 _ _ _ hg, ih2 _ _ _ h⟩
      · cases h

theorem apps_fits (ts : List Ty) {R : Type} (f : Ty.Fns ts R) (l : List SV) (r : R) (h : Ty.apps ts f l = some r) : fitsL ts l := by
  have := app_fits (.tuple ts) f (.tuple l) r (by simpa [Ty.app] using h)
  simpa [fits] using this

theorem app_cur : ∀ (t : Ty) {R : Type} (g : SV → R) (x : SV), fits t x → t.app (t.cur g) x = some (g x) := by
  intro t
  induction t using Ty.rec (motive_2 := fun ts => ∀ {R : Type} (g : List SV → R) (l : List SV), fitsL ts l → Ty.apps ts (Ty.curs ts g) l = some (g l)) with
  | int k => intro R g x h; cases x <;> simp [fits] at h; subst h; simp [Ty.app, Ty.cur, ksame_refl]
  | bool => intro R g x h; cases x <;> simp [fits] at h; simp [Ty.app, Ty.cur]
  | str => intro R g x h; cases x <;> simp [fits] at h; simp [Ty.app, Ty.cur]
  | ptr e => intro R g x h; cases x <;> simp [fits] at h; simp [Ty.app, Ty.cur]
  | slice e => intro R g x h; cases x <;> simp [fits] at h; simp [Ty.app, Ty.cur]
  | map => intro R g x h; cases x <;> simp [fits] at h; simp [Ty.app, Ty.cur]
  | arr k n => intro R g x h; cases x <;> simp [fits] at h; obtain ⟨rfl, rfl⟩ := h; simp [Ty.app, Ty.cur, ksame_refl]
  | struct b ts ih => intro R g x h; cases x <;> simp only [fits] at h; simp only [Ty.app, Ty.cur]; exact ih _ _ h
  | tuple ts ih => intro R g x h; cases x <;> simp only [fits] at h; simp only [Ty.app, Ty.cur]; exact ih _ _ h
  | other => intro R g x h; cases x <;> simp [fits] at h; simp [Ty.app, Ty.cur]
  | nil => rename_i R g l h; cases l <;> simp [fitsL] at h; simp [Ty.apps, Ty.curs]
  | cons t ts ih1 ih2 =>
    rename_i R g l h
    cases l with
    | nil => simp [fitsL] at h
    | cons x l =>
      simp only [fitsL] at h
      simp only [Ty.apps, Ty.curs]
      rw [ih1 _ x h.1]
      exact ih2 _ l h.2

theorem apps_curs (ts : List Ty) {R : Type} (g : List SV → R) (l : List SV) (h : fitsL ts l) : Ty.apps ts (Ty.curs ts g) l = some (g l) := by
  have := app_cur (.tuple ts) (fun x => match x with | .tuple l => g l | _ => g []) (.tuple l) (by simpa [fits] using h)
  simpa [Ty.app, Ty.cur] using this

theorem all_fits : ∀ (t : Ty) (F : SV → Prop), t.all F ↔ ∀ x, fits t x → F x := by
  intro t
  induction t using Ty.rec (motive_2 := fun ts => ∀ (F : List SV → Prop), Ty.alls ts F ↔ ∀ l, fitsL ts l → F l) with
  | int k => intro F; simp only [Ty.all]; exact ⟨fun h x hx => by cases x <;> simp [fits] at hx; subst hx; exact h _, fun h n => h _ rfl⟩
  | bool => intro F; simp only [Ty.all]; exact ⟨fun h x hx => by cases x <;> simp [fits] at hx; exact h _, fun h n => h _ trivial⟩
  | str => intro F; simp only [Ty.all]; exact ⟨fun h x hx => by cases x <;> simp [fits] at hx; exact h _, fun h n => h _ trivial⟩
  | ptr e => intro F; simp only [Ty.all]; exact ⟨fun h x hx => by cases x <;> simp [fits] at hx; exact h _, fun h n => h _ trivial⟩
  | slice e => intro F; simp only [Ty.all]; exact ⟨fun h x hx => by cases x <;> simp [fits] at hx; exact h _, fun h n => h _ trivial⟩
  | map => intro F; simp only [Ty.all]; exact ⟨fun h x hx => by cases x <;> simp [fits] at hx; exact h _, fun h n => h _ trivial⟩
  | arr k n => intro F; simp only [Ty.all]; exact ⟨fun h x hx => by cases x <;> simp [fits] at hx; obtain ⟨rfl, rfl⟩ := hx; exact h _, fun h n => h _ ⟨rfl, rfl⟩⟩
  | struct b ts ih => intro F; simp only [Ty.all, ih]; exact ⟨fun h x hx => by cases x <;> simp only [fits] at hx; exact h _ hx, fun h l hl => h (.struct l) hl⟩
  | tuple ts ih => intro F; simp only [Ty.all, ih]; exact ⟨fun h x hx => by cases x <;> simp only [fits] at hx; exact h _ hx, fun h l hl => h (.tuple l) hl⟩
  | other => intro F; simp only [Ty.all]; exact ⟨fun h x hx => by cases x <;> simp [fits] at hx; exact h _, fun h n => h _ trivial⟩
  | nil => rename_i F; simp only [Ty.alls]; exact ⟨fun h l hl => by cases l <;> simp [fitsL] at hl; exact h, fun h => h [] trivial⟩
  | cons t ts ih1 ih2 =>
    rename_i F
    simp only [Ty.alls, ih1, ih2]
    exact ⟨fun h l hl => by cases l <;> simp only [fitsL] at hl; exact h _ hl.1 _ hl.2, fun h x hx l hl => h (x :: l) ⟨hx, hl⟩⟩
theorem alls_fits (ts : List Ty) (F : List SV → Prop) : Ty.alls ts F ↔ ∀ l, fitsL ts l → F l := by
  have := all_fits (.tuple ts) (fun x => match x with | .tuple l => F l | _ => True)
  simp only [Ty.all] at this
  rw [this]
  exact ⟨fun h l hl => h (.tuple l) hl, fun h x hx => by cases x <;> simp only [fits] at hx; exact h _ hx⟩
end Go.Vc
