import Derived.Test.YtkkdnnpnbmpifaaS11C8
import Derived.Test.YtkkdnnpnbmpifaaS11W3
open Go Go.Vc Go.Proofs Go.ChangeShapes Go.WideShapes Go.ChangeAt Go.RowKit
set_option linter.unusedVariables false
set_option linter.unusedSimpArgs false
set_option autoImplicit false
namespace Go.Vc.S11
section
variable {H : Type} {W : World}
theorem walk8 (svs : List SV) (ds : List (DataW H)) (h : ArgsD X W [3, 22] svs ds) :
    Ret Try.prog 8 svs W fun r w1 => r = .bool true ∧ Upd [] [] W w1 := by
  obtain ⟨x, _, d1, _, m1, rfl, rfl, h1, h⟩ := argsD_cons h
  obtain ⟨y, _, d2, _, m2, rfl, rfl, h2, h⟩ := argsD_cons h
  obtain ⟨rfl, rfl⟩ := argsD_nil h
  obtain ⟨n, rfl, _⟩ := deep_int (t := 3) rfl h1
  obtain ⟨s, ps, rfl, hs, hP, _, _⟩ := dp_slice (X := X) (c := cPc) (e := 36) (P := PcOk W) rfl deep_piece (show Deep X W m2 (.slice 36) y d2 from h2)
  exact c8 hs hP
end
end Go.Vc.S11
