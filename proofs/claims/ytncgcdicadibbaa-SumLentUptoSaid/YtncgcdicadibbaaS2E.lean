import Derived.Test.YtncgcdicadibbaaS2D
import Derived.Test.YtncgcdicadibbaaLoops2
open Go Go.Vc Go.Proofs
set_option linter.unusedVariables false
set_option linter.unusedSimpArgs false
set_option autoImplicit false
namespace Go.Vc.S2
theorem c27 {sv : Int} {sa : Nat → Int} {dv : Int} {da : Nat → Int} {proto n : Int} {w : World} {R : SV → World → Prop}
    (k : ∀ s w1, Upd [] [] w w1 → SeesB w1 s (psOf sv sa dv da proto n) → Own w.heap.size 1 w1 s → R (.tuple [.slice s, .int .i64 (psErr sv sa dv da proto n)]) w1) :
    Ret Try.prog 27 [.struct [.int .i64 sv, .arr .u8 16 sa], .struct [.int .i64 dv, .arr .u8 16 da], .int .i64 proto, .int .i64 n] w R := by
  refine f27_of _ _ _ _ _ _ _ _ ?_
  unfold vc27
  intro b b1 w1 u1
  refine c42 fun w2 u2 => ⟨_, rfl, keeps_old u2, ?_⟩
  have v2 := u1.then u2
  intro J hJ
  have none : ∀ w3, Upd [] [] w w3 → ∀ e, psErr sv sa dv da proto n = e → e ≠ 0 → R (.tuple [.slice ⟨.none, 0, 0⟩, .int .i64 e]) w3 := by
    intro w3 u3 e he hne
    rw [he] at k
    refine k _ w3 u3 ?_ (Own.none _ _ _)
    have : psOf sv sa dv da proto n = [] := by unfold psOf; rw [if_pos (by rw [he]; exact hne)]
    rw [this]; exact Sees.nil _ _ _ _
  refine bre (fun h => none _ v2 20 (by unfold psErr; rw [if_pos (.inl h)]) (by decide)) (fun h => ?_)
  refine c42 fun w3 u3 => ⟨_, rfl, keeps_old u3, ?_⟩
  have v3 := v2.then u3
  refine bre' (fun h2 => none _ v3 20 (by unfold psErr; rw [if_pos (.inr h2)]) (by decide)) (fun h2 => ⟨rfl, rfl, hJ _ ?_⟩)
  clear hJ
  intro J hJ
  have hE : ∀ c : Prop, (proto < 0 ∨ proto > 255 ∨ n < 0 ∨ n > 65535) → psErr sv sa dv da proto n = 1 := fun _ hc => by unfold psErr; rw [if_neg (by omega), if_pos hc]
  refine brd (fun h3 => none _ v3 1 (hE True (by omega)) (by decide)) (fun h3 => brd (fun h4 => none _ v3 1 (hE True (by omega)) (by decide)) (fun h4 => brd (fun h5 => none _ v3 1 (hE True (by omega)) (by decide)) (fun h5 => brd (fun h6 => none _ v3 1 (hE True (by omega)) (by decide)) (fun h6 => ⟨rfl, rfl, hJ _ ?_⟩))))
  clear hJ none hE
  have he : psErr sv sa dv da proto n = 0 := by unfold psErr; rw [if_neg (by omega), if_neg (by omega)]
  rw [he] at k
  have hb1 : b1 < w3.heap.size := by have := u1.new (b := b1) (by simp); have := u2.size; have := u3.size; omega
  have hb : b < w3.heap.size := by have := u1.new (b := b) (by simp); have := u2.size; have := u3.size; omega
  -- what is made lies above the boxes
  have out : ∀ s w4, Upd [] [] w3 w4 → SeesB w4 s (psOf sv sa dv da proto n) → Own w3.heap.size 1 w4 s → R (.tuple [.slice s, .int .i64 0]) w4 := fun s w4 u4 hs ho => k s w4 (v3.then u4) hs (ho.mono v3.size)
  have hbs : ∀ x ∈ [b, b1], x < w3.heap.size := by simp; omega
  have hn1 : wr .u8 (wr .i64 (Int.tdiv n 256)) = n / 256 % 256 := by rw [tdiv_pos (by omega), wr_i64 (by omega) (by omega), wr_u8]
  have hn2 : wr .u8 (Int.tmod n 256) = n % 256 := by rw [tmod_pos (by omega), wr_u8]; omega
  rw [hn1, hn2, wr_u8]
  have hout : ∀ {N : Nat} {w : World} {s : Sl}, Own w3.heap.size 1 w s → ∀ b' ∈ s.blk, b' ∉ [b, b1] := by
    intro N w s ho b' hb' hm
    have := (ho.blk b' hb').1
    have := hbs b' hm
    omega
  refine bre (fun h7 => ?_) (fun h7 => ?_)
  · intro b4 w4 u4 hr4
    refine append_own (c := cU8) (N := w3.heap.size) (new := arrL 4 sa ++ arrL 4 da) (Sees.nil _ _ _ _) (Own.none _ _ _) (rowB hr4 _ rfl rfl) u4.size (by simp [Sl.blk]) (by omega) (by simp [arrL_len]) fun r w5 hr5 ho5 u5 _ => ?_
    have v5 := u4.step0 (m' := Sl.blk ⟨.none, 0, 0⟩) (n' := []) (w0 := w3) u5 (by simp [Sl.blk])
    intro b6 w6 u6 hr6
    have v6 := v5.then u6
    refine append_own (c := cU8) (new := [0, proto % 256, n / 256 % 256, n % 256]) (hr5.old u6) (ho5.old u6) (rowB hr6 _ rfl rfl) v6.size (hout (N := 0) (ho5.old u6)) (by omega) (by simp [arrL_len]) fun r w7 hr7 ho7 u7 _ => ?_
    refine out _ _ (v6.step0 u7 (fun b hb => ((ho5.old u6).blk b hb).1)) ?_ ho7
    unfold psOf
    rw [if_neg (by omega), if_pos h7]
    exact hr7
  · refine app_loop (m := 16) (f := sa) rfl (Upd.refl w3) (Sees.nil _ _ _ _) (Own.none _ _ _) (by simp) (fun t ht => by simp [SV.cells, SV.cellsL]) hbs (fun I M s n w r w' h1 h2 => ⟨rfl, rfl, h1, h2⟩) fun s w4 u4 hs4 ho4 => ?_
    refine app_loop (m := 16) (f := da) rfl u4 hs4 ho4 (by simp [arrL_len]) (fun t ht => by simp [SV.cells, SV.cellsL]) hbs (fun I M s n w r w' h1 h2 => ⟨rfl, rfl, h1, h2⟩) fun s w5 u5 hs5 ho5 => ?_
    intro b6 w6 u6 hr6
    have v6 := u5.then u6
    refine append_own (c := cU8) (new := [0, 0, n / 256 % 256, n % 256, 0, 0, 0, proto % 256]) (hs5.old u6) (ho5.old u6) (rowB hr6 _ rfl rfl) v6.size (hout (N := 0) (ho5.old u6)) (by omega) (by simp [arrL_len]) fun r w7 hr7 ho7 u7 _ => ?_
    refine out _ _ (v6.step0 u7 (fun b hb => ((ho5.old u6).blk b hb).1)) ?_ ho7
    unfold psOf
    rw [if_neg (by omega), if_neg h7]
    simpa using hr7
end Go.Vc.S2
