import Derived.Test.YtkkdnnpnbmpifaaS11C4
import Derived.Test.YtkkdnnpnbmpifaaS11W3
open Go Go.Vc Go.Proofs Go.ChangeShapes Go.WideShapes Go.ChangeAt Go.RowKit
set_option linter.unusedVariables false
set_option linter.unusedSimpArgs false
set_option autoImplicit false
namespace Go.Vc.S11
section
variable {H : Type} {W : World}
theorem deep_i64 (m : Nat) (x : SV) (d : DataW H) (h : Deep X W m (X.T 3) x d) : ∃ a : Int, x.cells = cI64.enc a ∧ True := by
  obtain ⟨k, rfl, _⟩ := deep_int (X := X) (t := 3) (k := .i64) rfl h
  exact ⟨k, rfl, trivial⟩
theorem walk4 (svs : List SV) (ds : List (DataW H)) (h : ArgsD X W [34, 43, 43] svs ds) (hsz : (DataW.weightsEach Try.prog [34, 43, 43] ds).all (· ≤ reachBytes) = true) :
    Ret Try.prog 4 svs W fun r w1 => r = .bool true ∧ Upd [] [] W w1 := by
  obtain ⟨x, _, d1, _, m1, rfl, rfl, h1, h⟩ := argsD_cons h
  obtain ⟨y, _, d2, _, m2, rfl, rfl, h2, h⟩ := argsD_cons h
  obtain ⟨z, _, d3, _, m3, rfl, rfl, h3, h⟩ := argsD_cons h
  obtain ⟨rfl, rfl⟩ := argsD_nil h
  have hl := light_head (light_head (light_head (light_arg hsz)).2).2
  obtain ⟨s1, l1, rfl, a1, a2, a3, _⟩ := deep_bytes' (X := X) (t := 34) (e := 5) rfl rfl h1
  obtain ⟨s2, l2, rfl, b1, _, b3, _⟩ := dp_slice (X := X) (c := cI64) (e := 3) (P := fun _ => True) rfl deep_i64 (show Deep X W m2 (.slice 3) y d2 from h2)
  obtain ⟨s3, l3, rfl, c1, _, c3, c4'⟩ := dp_slice (X := X) (c := cI64) (e := 3) (P := fun _ => True) rfl deep_i64 (show Deep X W m3 (.slice 3) z d3 from h3)
  have hol : l3.length ≤ 140737488351232 := by
    rcases c4' with ⟨_, rfl⟩ | ⟨els, sp, rfl, e⟩
    · simp
    · have := (light_slice (b := 8) (e := 3) (by kernel_rfl) (by kernel_rfl) hl.1).1
      omega
  exact c4 a1 a2 a3 b1 b3 c1 hol
end
end Go.Vc.S11
