import Derived.Test.YtkkdnnpnbmpifaaS11TxtP4
import Derived.Test.YtkkdnnpnbmpifaaS11Same
import Derived.Test.YtkkdnnpnbmpifaaG3
open Go Go.Vc Go.Proofs
set_option linter.unusedVariables false
set_option linter.unusedSimpArgs false
set_option autoImplicit false
namespace Go.Vc.S11

/-- are they the same bytes? -/
theorem cSame {a b : Sl} {la lb : List Int} {w : World} {R : SV → World → Prop} (ha : SeesB w a la) (hb : SeesB w b lb) (hn : la.length < 9223372036854775807)
    (k : ∀ w1, Upd [] [] w w1 → R (.bool (decide (la = lb))) w1) : Ret Try.prog 19 [.slice a, .slice b] w R := by
  refine f19_of _ _ _ _ ?_
  unfold vc19
  rw [ha.len, hb.len]
  refine bre' (fun h => ?_) (fun h => ?_)
  · rw [decide_eq_false (fun e => h (by rw [e]))] at k
    exact k _ (Upd.refl w)
  · have hlen : la.length = lb.length := by omega
    refine ⟨fun i w1 => Upd [] [] w w1 ∧ ∃ t : Nat, i = t ∧ t ≤ la.length ∧ la.take t = lb.take t, fun i _ => (la.length - i).toNat, ⟨Upd.refl w, 0, rfl, by omega, by simp⟩, ?_⟩
    rintro i w1 ⟨u, t, rfl, ht, he⟩
    have ha1 := ha.old u
    have hb1 := hb.old u
    refine brd (fun hlt => ?_) (fun hge => ?_)
    · refine needB' ha1 (by omega) hlt ⟨_, ha1.byte (by omega) hlt, ?_⟩
      refine needB' hb1 (by omega) (by omega) ⟨_, hb1.byte (by omega) (by omega), ?_⟩
      rw [bt_nat (by omega), bt_nat (by omega)]
      refine bre' (fun e w2 u2 => ?_) (fun e w2 u2 => ⟨⟨u.then u2, t + 1, ?_, by omega, ?_⟩, ?_⟩)
      · rw [decide_eq_false (fun e' => e (by simp [e']))] at k
        exact k _ (u.then u2)
      · rw [wr_i64 (by omega) (by omega)]; push_cast; rfl
      · rw [take_snoc (by omega), take_snoc (by omega), he, e]
      · rw [wr_i64 (by omega) (by omega)]; (try dsimp only); omega
    · have : t = la.length := by omega
      subst this
      rw [List.take_length, hlen, List.take_length] at he
      rw [decide_eq_true he] at k
      exact k _ u
/-- they are -/
theorem cSameT {a b : Sl} {l : List Int} {w : World} {R : SV → World → Prop} (ha : SeesB w a l) (hb : SeesB w b l) (hn : l.length < 9223372036854775807)
    (k : ∀ w1, Upd [] [] w w1 → R (.bool true) w1) : Ret Try.prog 19 [.slice a, .slice b] w R :=
  cSame ha hb hn fun w1 u => by rw [decide_eq_true rfl]; exact k w1 u
end Go.Vc.S11
