import Derived.Test.YtmchllbemgnieaaDoorS9Deep
open Go Go.Vc Go.Proofs Go.ChangeShapes Go.WideShapes Go.ChangeAt Go.RowKit
set_option linter.unusedVariables false
set_option linter.unusedSimpArgs false
set_option autoImplicit false
namespace Go.Vc.S9
section
variable {H : Type} {W : World}
theorem walk8 (hg : Tabs W) (svs : List SV) (ds : List (DataW H)) (h : ArgsD X W [27, 27, 45] svs ds) (hw : (DataW.weightsEach Tryd.prog [27, 27, 45] ds).all (· ≤ reachBytes) = true) :
    Ret Tryd.prog 8 svs W fun r w1 => r = .bool true ∧ Upd [] [] W w1 := by
  obtain ⟨x, _, d1, _, m1, rfl, rfl, h1, h⟩ := argsD_cons h
  obtain ⟨y, _, d2, _, m2, rfl, rfl, h2, h⟩ := argsD_cons h
  obtain ⟨z, _, d3, _, m3, rfl, rfl, h3, h⟩ := argsD_cons h
  obtain ⟨rfl, rfl⟩ := argsD_nil h
  obtain ⟨sv, sa, rfl, hsa⟩ := deep_adr h1
  obtain ⟨dv, da, rfl, hda⟩ := deep_adr h2
  obtain ⟨t, so, sd, os, _, _, _, _, _, _, _, do_, dd, rfl, ho, hd, hf, hc, hc2, hc3, rfl, hdo, hsl⟩ := deep_tcp h3
  have hH := handT_of ho hd hf hc hc2 hc3 hdo hsl (light_head (light_head (light_head (light_arg hw)).2).2).1
  exact c8 (e := ⟨sv, sa, dv, da⟩) hg ⟨hsa, hda⟩ hH
theorem walk7 (hg : Tabs W) (svs : List SV) (ds : List (DataW H)) (h : ArgsD X W [27, 27, 30] svs ds) (hw : (DataW.weightsEach Tryd.prog [27, 27, 30] ds).all (· ≤ reachBytes) = true) :
    Ret Tryd.prog 7 svs W fun r w1 => r = .bool true ∧ Upd [] [] W w1 := by
  obtain ⟨x, _, d1, _, m1, rfl, rfl, h1, h⟩ := argsD_cons h
  obtain ⟨y, _, d2, _, m2, rfl, rfl, h2, h⟩ := argsD_cons h
  obtain ⟨z, _, d3, _, m3, rfl, rfl, h3, h⟩ := argsD_cons h
  obtain ⟨rfl, rfl⟩ := argsD_nil h
  obtain ⟨sv, sa, rfl, hsa⟩ := deep_adr h1
  obtain ⟨dv, da, rfl, hda⟩ := deep_adr h2
  obtain ⟨u, sd, _, _, _, dd, rfl, hd, hf, hc, rfl, hsl⟩ := deep_udp h3
  have hH := handU_of hd hf hc hsl (light_head (light_head (light_head (light_arg hw)).2).2).1
  exact c7 (e := ⟨sv, sa, dv, da⟩) hg ⟨hsa, hda⟩ hH
end
end Go.Vc.S9
