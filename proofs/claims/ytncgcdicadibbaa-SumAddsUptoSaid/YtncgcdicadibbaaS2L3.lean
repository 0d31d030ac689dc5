import Derived.Test.YtncgcdicadibbaaS2T3
import Derived.Test.YtncgcdicadibbaaS2C
import Derived.Test.YtncgcdicadibbaaS2F
import Derived.Test.YtncgcdicadibbaaRowB
open Go Go.Vc Go.Proofs
set_option linter.unusedVariables false
set_option linter.unusedSimpArgs false
set_option autoImplicit false
namespace Go.Vc.S2

theorem c3 {parts : Sl} {ls : List (List Int)} {ss : List Sl} {w : World} (h : Parts w parts ls ss) (hb : ∀ l ∈ ls, Byt l) :
    Ret Try.prog 3 [.slice parts] w fun r w1 => r = .bool true ∧ Upd [] [] w w1 := by
  refine f3_of _ _ _ ?_
  unfold vc3
  refine c13 fun w1 u1 => ⟨_, rfl, brf (by decide) ?_⟩
  refine c14 (h.old u1) hb fun s a was w2 lx sx A u2 hP hbl hfl hll hcap hA hAl hW => ⟨_, _, _, rfl, ?_⟩
  have v2 := u1.then u2
  refine c15 hP (by omega) (by omega) fun s3 w3 u3 hs3 ho3 => ⟨_, rfl, ?_⟩
  intro b w4 u4 hrow
  have v4 := (v2.then u3).then u4
  have hP4 := (hP.old u3).old u4
  have Q4 := rowP (n := 1) (cap := 1) hrow (ss := [s3]) rfl rfl (ls := [_]) ⟨hs3.old u4, trivial⟩
  have hbf := byt_flat hbl
  have hlen : ∀ l ∈ lx, l.length ≤ 140737488355328 := fun l hl => by
    have := (List.sublist_flatten_of_mem hl).length_le
    omega
  have hq1 : ∀ l ∈ [lx.flatten], Byt l := by simpa using hbf
  have hq2 : [lx.flatten].flatten.length ≤ 140737488355328 := by
    simp only [List.flatten_cons, List.flatten_nil, List.append_nil]; omega
  refine c16 hP4 hbl (by omega) hlen ⟨_, rfl, ?_⟩
  refine c17 hP4 hbl (by omega) hlen ⟨_, rfl, ?_⟩
  refine c18 hP4 hbl (by omega) hlen ⟨_, rfl, ?_⟩
  refine c19 Q4 hq1 (by simp) hq2 ⟨_, rfl, brt (by simp) ?_⟩
  refine c20 Q4 hq1 (by simp) hq2 ⟨_, rfl, brt (by simp) ?_⟩
  refine c21 Q4 hq1 (by simp) hq2 ⟨_, rfl, brt (by simp) ?_⟩
  refine c22 ((hA.old u3).old u4) ((hW.old u3).old u4) (by omega) fun w5 u5 => ⟨_, rfl, ?_⟩
  exact ⟨by simp, v4.then u5⟩

theorem walk3 {H : Type} {W : World} (svs : List SV) (ds : List (DataW H)) (h : ArgsD X W [22] svs ds) :
    Ret Try.prog 3 svs W fun r w1 => r = .bool true ∧ Upd [] [] W w1 := by
  obtain ⟨x, _, d1, _, m1, rfl, rfl, h1, h⟩ := argsD_cons h
  obtain ⟨rfl, rfl⟩ := argsD_nil h
  obtain ⟨s, ls, ss, rfl, hP, hb, hc, hm, _⟩ := deep_parts (t := 22) (e := 24) (e2 := 5) rfl rfl rfl h1
  exact c3 hP hb
end Go.Vc.S2
