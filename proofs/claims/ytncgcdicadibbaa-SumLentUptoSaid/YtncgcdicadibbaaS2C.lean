import Derived.Test.YtncgcdicadibbaaS2B
open Go Go.Vc Go.Proofs
set_option linter.unusedVariables false
set_option linter.unusedSimpArgs false
set_option autoImplicit false
namespace Go.Vc.S2

theorem c13 {w : World} {R : SV → World → Prop} (k : ∀ w1, Upd [] [] w w1 → R (.bool true) w1) : Ret Try.prog 13 [] w R := by
  refine f13_of _ _ ?_
  unfold vc13
  intro b w1 u1 h1 b2 w2 u2 h2
  have s1 := rowB (n := 8) (cap := 8) h1 [0, 1, 242, 3, 244, 245, 246, 247] rfl rfl
  have p2 := rowP (n := 1) (cap := 1) h2 (ss := [⟨some ⟨b, 0, none⟩, 8, 8⟩]) rfl rfl (ls := [_]) ⟨s1.old u2, trivial⟩
  have v2 := u1.then u2
  refine c16 p2 (by simp [Byt]) (by simp) (by simp) ⟨_, rfl, ?_⟩
  refine brt (by decide) ?_
  intro b3 w3 u3 h3
  have v3 := v2.then u3
  have s3 := (s1.old u2).old u3
  have p3 := rowP (n := 1) (cap := 1) h3 (ss := [⟨some ⟨b, 0, none⟩, 8, 8⟩]) rfl rfl (ls := [_]) ⟨s3, trivial⟩
  refine c17 p3 (by simp [Byt]) (by simp) (by simp) ⟨_, rfl, ?_⟩
  refine brt (by decide) ?_
  intro b4 w4 u4 h4 b5 w5 u5 h5
  have s4 := rowB (n := 2) (cap := 2) h4 [34, 13] rfl rfl
  have p5 := rowP (n := 2) (cap := 2) h5 (ss := [⟨some ⟨b, 0, none⟩, 8, 8⟩, ⟨some ⟨b4, 0, none⟩, 2, 2⟩]) rfl rfl (ls := [_, _]) ⟨(s3.old u4).old u5, s4.old u5, trivial⟩
  have v5 := (v3.then u4).then u5
  refine c18 p5 (by simp [Byt]) (by simp) (by simp) ⟨_, rfl, ?_⟩
  refine brt (by decide) ?_
  refine c18 (Parts.nil _ _ _) (by simp) (by simp) (by simp) ⟨_, rfl, ?_⟩
  exact k _ v5
end Go.Vc.S2
