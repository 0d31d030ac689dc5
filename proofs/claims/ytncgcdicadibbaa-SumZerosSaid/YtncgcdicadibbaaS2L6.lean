import Derived.Test.YtncgcdicadibbaaS2T6
import Derived.Test.YtncgcdicadibbaaS2P
import Derived.Test.YtncgcdicadibbaaRowA
open Go Go.Vc Go.Proofs
set_option linter.unusedVariables false
set_option linter.unusedSimpArgs false
set_option autoImplicit false
namespace Go.Vc.S2

theorem sum_ws {l : List Int} (hb : Byt l) {x : Int} (h : ws true l = x) : sumOf l = fd x := by unfold sumOf; rw [h]
theorem zeros_good {l : List Int} {p : Int} (hb : Byt l) (h0 : 0 ≤ p) (h1 : p + 1 < l.length) (h2 : p % 2 = 0) (hl : l.length % 2 = 0) {c : Int} (hc : c = 65535 - sumOf (putOf l p 0)) :
    sumOf (putOf l p 0 ++ [c / 256 % 256, c % 256]) = 65535 ∧ sumOf (putOf (putOf l p 0 ++ [c / 256 % 256, c % 256]) p 65535) = 65535 := by
  have hb0 := putOf_byt hb p 0
  have hw := ws_nonneg true hb0
  have hr := fd_range hw.1
  have hlen := putOf_len l p 0
  have hp := bt_put (n := 0) h0 h1
  have e0 : ws true (putOf l p 0 ++ [c / 256 % 256, c % 256]) = ws true (putOf l p 0) + c := by
    rw [ws_app]
    have : par true (putOf l p 0).length = true := by unfold par; rw [if_pos (by omega)]
    rw [this]
    unfold sumOf at hc
    simp [ws]; omega
  have hb1 : Byt (putOf l p 0 ++ [c / 256 % 256, c % 256]) := hb0.app (by simp [Byt]; omega)
  have hbt : ∀ i : Int, 0 ≤ i → i < l.length → bt (putOf l p 0 ++ [c / 256 % 256, c % 256]) i = bt (putOf l p 0) i := by
    intro i hi hi2
    rw [bt_int hi (by simp; omega), bt_int hi (by omega), List.getElem_append_left (by omega)]
  have e1 := ws_put (l := putOf l p 0 ++ [c / 256 % 256, c % 256]) (n := 65535) h0 (by simp; omega) h2 (by omega)
  rw [hbt p h0 (by omega), hbt (p + 1) (by omega) (by omega), hp.1, hp.2, e0] at e1
  unfold sumOf at hc ⊢
  rw [e0, e1, fd_most (by omega), fd_most (by omega)]
  unfold fd at hc
  split at hc <;> omega

theorem c6 {b : Sl} {l : List Int} {at_ : Int} {w : World} (h : SeesB w b l) (hb : Byt l) (hc : b.len ≤ b.cap) (ha : -9223372036854775808 ≤ at_ ∧ at_ ≤ 9223372036854775807) :
    Ret Try.prog 6 [.slice b, .int .i64 at_] w fun r w1 => r = .bool true ∧ Upd [] [] w w1 := by
  refine f6_of _ _ _ _ ?_
  unfold vc6
  refine c23 h hc fun s w1 u1 hs ho => ⟨_, rfl, ?_⟩
  intro J hJ
  have hev := evenOf_len l
  have hbe := evenOf_byt hb
  have hsl := hs.len
  generalize evenOf l = q at hs hev hbe hsl
  refine bre (fun h0 => ?_) (fun h0 => ?_)
  · exact c13 fun w2 u2 => ⟨_, rfl, rfl, u1.then u2⟩
  refine c13 fun w2 u2 => ⟨_, rfl, brf (by decide) (hJ _ ?_)⟩
  clear hJ
  have v2 := u1.then u2
  have hs2 := hs.old u2
  have ho2 := ho.old u2
  have hpl := placeOf_range (n := s.len) at_ (by omega) (by omega)
  refine c24 (by omega) (by omega) (by omega) ha ⟨_, rfl, ?_⟩
  generalize placeOf s.len at_ = p at hpl ⊢
  rw [hsl] at hpl
  refine c25 hs2 ho2 hpl.1 hpl.2.1 (by omega) fun w3 u3 hs3 ho3 => ⟨rfl, ?_⟩
  have v3 := v2.step0 u3 (fun b hb => (ho2.blk b hb).1)
  have hb3 := putOf_byt hbe p 0
  intro b4 w4 u4 h4
  have hs4 := hs3.old u4
  have p4 := rowP (n := 1) (cap := 1) h4 (ss := [s]) rfl rfl (ls := [_]) ⟨hs4, trivial⟩
  have ho4 := ho3.old u4
  have v4 := v3.then u4
  refine c17 p4 (by simpa using hb3) (by simp) (by simp [putOf_len]; omega) ⟨_, rfl, ?_⟩
  simp only [List.flatten_cons, List.flatten_nil, List.append_nil]
  have hcr := fd_range (ws_nonneg true hb3).1
  have hgood := zeros_good hbe hpl.1 hpl.2.1 hpl.2.2 hev.1 rfl
  have hcr2 : 0 ≤ 65535 - sumOf (putOf q p 0) ∧ 65535 - sumOf (putOf q p 0) ≤ 65535 := by unfold sumOf; omega
  have hl3 := putOf_len q p 0
  generalize 65535 - sumOf (putOf q p 0) = c at hgood hcr2 ⊢
  generalize putOf q p 0 = q0 at *
  intro b5 w5 u5 h5
  have hs5 := hs4.old u5
  have ho5 := ho4.old u5
  have v5 := v4.then u5
  refine append_own (c := cU8) (new := [c / 256 % 256, c % 256]) hs5 ho5 (rowB h5 _ (by rw [gshr8, wr_u8, wr_u8]; rfl) rfl) v5.size (by simp) (by omega) (by simp; omega) fun r w6 hr6 ho6 u6 _ => ?_
  have v6 := v5.step0 u6 (fun b hb => (ho5.blk b hb).1)
  have hb6 : Byt (q0 ++ [c / 256 % 256, c % 256]) := hb3.app (by simp [Byt]; omega)
  intro b7 w7 u7 h7
  have hr7 := hr6.old u7
  have ho7 := ho6.old u7
  have v7 := v6.then u7
  have p7 := rowP (n := 1) (cap := 1) h7 (ss := [r]) rfl rfl (ls := [_]) ⟨hr7, trivial⟩
  refine c18 p7 (by simpa using hb6) (by simp) (by simp; omega) ⟨_, rfl, ?_⟩
  simp only [List.flatten_cons, List.flatten_nil, List.append_nil, hgood.1]
  refine brf (by decide) ?_
  refine c25 hr7 ho7 hpl.1 (by simp; omega) (by simp; omega) fun w8 u8 hs8 ho8 => ⟨rfl, ?_⟩
  have v8 := v7.step0 u8 (fun b hb => (ho7.blk b hb).1)
  intro b9 w9 u9 h9
  have p9 := rowP (n := 1) (cap := 1) h9 (ss := [r]) rfl rfl (ls := [_]) ⟨hs8.old u9, trivial⟩
  refine c18 p9 (by simpa using putOf_byt hb6 _ _) (by simp) (by simp [putOf_len]; omega) ⟨_, rfl, ?_⟩
  simp only [List.flatten_cons, List.flatten_nil, List.append_nil, hgood.2]
  exact ⟨rfl, v8.then u9⟩

theorem walk6 {H : Type} {W : World} (svs : List SV) (ds : List (DataW H)) (h : ArgsD X W [24, 3] svs ds) (_ : (DataW.weightsEach Try.prog [24, 3] ds).all (· ≤ reachBytes) = true) :
    Ret Try.prog 6 svs W fun r w1 => r = .bool true ∧ Upd [] [] W w1 := by
  obtain ⟨x, _, d1, _, m1, rfl, rfl, h1, h⟩ := argsD_cons h
  obtain ⟨y, _, d2, _, m2, rfl, rfl, h2, h⟩ := argsD_cons h
  obtain ⟨rfl, rfl⟩ := argsD_nil h
  obtain ⟨s, l, rfl, hs, hb, hc, _⟩ := deep_bytes (t := 24) (e := 5) rfl rfl h1
  obtain ⟨a, rfl, ha⟩ := deep_int (t := 3) (k := .i64) rfl h2
  exact c6 hs hb hc (wf_i64 ha)
end Go.Vc.S2
