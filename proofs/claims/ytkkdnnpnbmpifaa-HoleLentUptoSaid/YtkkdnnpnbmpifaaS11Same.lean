import Derived.Test.YtkkdnnpnbmpifaaS11TxtP6
import Derived.Test.YtkkdnnpnbmpifaaS11First
open Go Go.Vc Go.Proofs
set_option linter.unusedVariables false
set_option linter.unusedSimpArgs false
set_option autoImplicit false
namespace Go.Vc.S11
section
variable {w : World} {R : SV → World → Prop}
/-- the same pairs -/
theorem c24T {a b : Sl} {l : List (Int × Int)} (ha : Sees cG w a l) (hb : Sees cG w b l) (hl : l.length < 9223372036854775807) (k : ∀ w1, Upd [] [] w w1 → R (.bool true) w1) : Ret Try.prog 24 [.slice a, .slice b] w R := by
  refine f24_of _ _ _ _ ?_
  unfold vc24
  have hal := ha.len
  have hbl := hb.len
  refine brf (by rw [hal, hbl]; simp) ?_
  refine ⟨fun i w' => Upd [] [] w w' ∧ ∃ t : Nat, i = t ∧ t ≤ l.length, fun i _ => (l.length - i).toNat, ⟨Upd.refl w, 0, rfl, by omega⟩, ?_⟩
  rintro i w1 ⟨u1, t, rfl, ht⟩
  refine brd (fun hlt => ?_) (fun _ => k w1 u1)
  have ht2 : t < l.length := by omega
  have ha1 := ha.old u1
  have hb1 := hb.old u1
  have pr : ∀ {s : Sl}, Sees cG w1 s l → ∀ i, i < 2 → w1.cell? ((s.at 2 (Int.toNat (t : Int))).add (0 + i)) = some (.int .i64 ((fun i => if i = 0 then l[t].1 else l[t].2) i)) := fun hs i hi => by
    rw [Nat.zero_add, Int.toNat_natCast]
    have e0 := hs.elem ht2 0 (by simp [cG])
    have e1 := hs.elem ht2 1 (by simp [cG])
    match i, hi with
    | 0, _ => exact e0
    | 1, _ => exact e1
  refine needIx (by omega) (by omega) (ha1.isSome (by decide) (by omega)) ⟨_, pr ha1, needIx (by omega) (by omega) (hb1.isSome (by decide) (by omega)) ⟨_, pr hb1, ?_⟩⟩
  refine brf (by simp [eqArr]) fun w2 u2 => ?_
  exact ⟨⟨u1.then u2, t + 1, wr_succ (by omega), by omega⟩, by rw [wr_succ (q := t) (by omega)]; (try dsimp only); omega⟩
end
end Go.Vc.S11
