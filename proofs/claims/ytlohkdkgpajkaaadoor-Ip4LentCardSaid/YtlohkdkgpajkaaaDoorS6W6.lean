import Derived.Test.YtlohkdkgpajkaaaDoorS6L6b
open Go Go.Vc Go.Proofs Go.ChangeShapes Go.WideShapes Go.ChangeAt Go.RowKit
set_option linter.unusedVariables false
set_option linter.unusedSimpArgs false
set_option autoImplicit false
namespace Go.Vc.S6
theorem und49 : Tryd.prog.underlying 49 = some (.slice 70) := by kernel_rfl
theorem bytes70 : Tryd.prog.bytesOf 70 = 16 := by kernel_rfl
theorem deep_turn {H : Type} {w : World} (m : Nat) (x : SV) (d : DataW H) (h : Deep X w m (X.T 70) x d) : ∃ a : Int × Int, x.cells = cT.enc a ∧ (-9223372036854775808 ≤ a.1 ∧ a.1 ≤ 9223372036854775807) := by
  have h := (show Deep X w m (.arr .i64 2) x d from h)
  cases m with
  | zero => exact h.elim
  | succ m =>
    simp only [Deep] at h
    obtain ⟨f, l, h1, h2, h3, h4⟩ := h
    exact ⟨(f 0, f 1), by rw [h1]; rfl, wf_i64 (h4 0 (by omega)).2⟩
theorem walk6 {H : Type} {W : World} (hg : Sees cI64 W wid4 widths4) (svs : List SV) (ds : List (DataW H)) (h : ArgsD X W [30, 28, 49] svs ds) (hw : (DataW.weightsEach Tryd.prog [30, 28, 49] ds).all (· ≤ reachBytes) = true) :
    Ret Tryd.prog 6 svs W fun r w1 => r = .bool true ∧ Upd [] [] W w1 := by
  obtain ⟨x, _, d1, _, m1, rfl, rfl, h1, h⟩ := argsD_cons h
  obtain ⟨y, _, d2, _, m2, rfl, rfl, h2, h⟩ := argsD_cons h
  obtain ⟨z, _, d3, _, m3, rfl, rfl, h3, h⟩ := argsD_cons h
  obtain ⟨rfl, rfl⟩ := argsD_nil h
  obtain ⟨v, so, sd, os, _, _, _, _, _, _, _, _, _, do_, dd, rfl, ho, hd, hf, hc, hc2, hc3, rfl, hdo, hsl, _⟩ := deep_ip4 h1
  obtain ⟨sl, ll, ol, rfl, hol, hob, hoc, hsc, hdl⟩ := deep_optsL h2
  obtain ⟨s2, ts, rfl, hts, htv, _, _⟩ := dp_slice (X := X) (c := cT) (e := 70) (P := fun a => -9223372036854775808 ≤ a.1 ∧ a.1 ≤ 9223372036854775807) rfl deep_turn (show Deep X W m3 (.slice 70) z d3 from h3)
  have q := light_opts und28 bytes37 und37 und37t und22 bytes5 (light_head (light_head (light_arg hw)).2).1 hdl
  have hH := hand_of ho hd hf hc hc2 hc3 hdo hsl (light_head (light_arg hw)).1
  exact c6 hg hH hH.dlen hH.few hH.small hol hob q.1 q.2 hts htv
end Go.Vc.S6
