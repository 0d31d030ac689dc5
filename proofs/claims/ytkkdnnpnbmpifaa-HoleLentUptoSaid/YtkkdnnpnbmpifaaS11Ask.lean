import Derived.Test.YtkkdnnpnbmpifaaS11Pair
import Derived.Test.YtkkdnnpnbmpifaaS11Same
open Go Go.Vc Go.Proofs
set_option linter.unusedVariables false
set_option linter.unusedSimpArgs false
set_option autoImplicit false
namespace Go.Vc.S11
section
variable {w w1 : World} {R : SV → World → Prop} {N M n nb bk : Nat} {S : Hs} {p q : Option Addr} {bs hd ct : List Nat}
theorem BookAt.base (B : BookAt N w bk n hd ct) : N ≤ w.heap.size := by
  obtain ⟨LB, LG, MB, MG, B, rfl⟩ := B
  exact B.rows.base.2
theorem c15' {h m : Nat} {Bf G : Sl} (H : Hol N w h S Bf G m) (k : R (.int .i64 S.held) w) : Ret Try.prog 15 [.ptr (some ⟨h, 0, none⟩)] w fun r w1 => ∃ n : Int, r = .int .i64 n ∧ R r w1 := c15 H ⟨_, rfl, k⟩
set_option maxRecDepth 20000 in
theorem c22 {kind : Int} (Q : PairAt N w p q S n bs) (B : BookAt M w bk nb hd ct) (hnb : nb ≤ 1000000) (hdis : ∀ x ∈ bs, x ∉ hd ∧ x ∉ ct)
    (k : ∀ hd' ct' w1, Upd hd [] w w1 → BookAt M w1 bk (nb + 1) hd' ct' → PairAt N w1 p q S n bs → (∀ x ∈ hd', x ∈ hd ∨ w.heap.size ≤ x) → (∀ x ∈ ct', x ∈ ct ∨ w.heap.size ≤ x) → R (.bool true) w1) :
    Ret Try.prog 22 [.struct [.ptr p, .ptr q], .int .i64 kind, .ptr (some ⟨bk, 0, none⟩)] w R := by
  have Q0 := Q
  obtain ⟨hp, hq, m, W, Bf, G, A, D, P, rfl, rfl, r, H, V, d, c, rfl⟩ := Q
  refine f22_of _ _ _ _ _ _ ?_
  unfold vc22
  intro b
  have hb := B.base
  have ltb := B.lt
  have gg := r.g.ok.gl
  have gbl := r.g.bl
  -- a list that was told is kept in the book
  have keep : ∀ (l : Sl) (w2 : World) (hd' ct' : List Nat) (w3 : World), Upd [] [] w w2 → Upd (hd ++ l.blk) [] w2 w3 → (∀ x ∈ l.blk, w.heap.size ≤ x) → BookAt M w3 bk (nb + 1) hd' ct' → (∀ x ∈ hd', x ∈ hd ∨ w2.heap.size ≤ x) → (∀ x ∈ ct', x ∈ ct ∨ x ∈ l.blk ∨ w2.heap.size ≤ x) → R (.bool true) w3 := by
    intro l w2 hd' ct' w3 u2 u3 hl B3 n1 n2
    have z2 := u2.size
    refine k hd' ct' w3 ((u2.wide (m' := hd) (by simp)).step u3 (fun x hx => ?_)) B3 ?_ (fun x hx => ?_) (fun x hx => ?_)
    · rcases List.mem_append.1 hx with q | q
      · exact .inr q
      · exact .inl (hl x q)
    · refine (Q0.old u2).upd u3 (fun x hx hm => ?_)
      rcases List.mem_append.1 hm with q | q
      · exact (hdis x hx).1 q
      · have := Q0.lt x hx; have := hl x q; omega
    · rcases n1 x hx with q | q
      · exact .inl q
      · exact .inr (by omega)
    · rcases n2 x hx with q | q | q
      · exact .inl q
      · exact .inr (hl x q)
      · exact .inr (by omega)
  have same : ∀ w2 ns, Upd [] ns w w2 → R (.bool true) w2 := fun w2 ns u2 => by
    refine k hd ct w2 (u2.wide (by simp)) ?_ (Q0.old u2) (fun x hx => .inl hx) (fun x hx => .inl hx)
    obtain ⟨LB, LG, MB, MG, B', e⟩ := B.old u2
    obtain ⟨gb, mb, b1, b2, b3, b4, b5, b6⟩ := B'.bs
    obtain ⟨gg, mg, g1, g2, g3, g4, g5, g6⟩ := B'.gs
    exact ⟨LB, LG, MB, MG, ⟨B'.rows, ⟨gb, mb, b1, b2, b3, by omega, b5, b6⟩, ⟨gg, mg, g1, g2, g3, by omega, g5, g6⟩, B'.ct⟩, e⟩
  refine bre (fun _ => fun w1 u1 => ?_) (fun _ => bre (fun _ => fun w1 u1 => ?_) (fun _ => bre (fun _ => fun w1 u1 => ?_) (fun _ => fun w1 u1 => same w1 _ u1)))
  · -- the holes
    refine c11 (H.old u1) (by omega) fun s2 w2 u2 hs2 ho2 => ⟨_, rfl, kp u2, ?_⟩
    have v2 := u1.then u2
    refine c29 r (V.old v2) fun s3 w3 u3 hs3 ho3 => ⟨_, rfl, kp u3, ?_⟩
    refine c24T (hs2.old u3) hs3 (by omega) fun w4 u4 => ⟨_, rfl, kp u4, brf rfl ?_⟩
    have v4 := (v2.then u3).then u4
    have z1 := u1.size; have z2 := u2.size; have z3 := u3.size; have z4 := u4.size
    have g2 := ho2.blk
    refine c36 (B.old v4) (hs2.old (u3.then u4)) (((ho2.old u3).old u4).mono (by omega)) (fun x hx => ⟨fun hm => by have := ltb.1 x hm; have := g2 x hx; omega, fun hm => by have := ltb.2 x hm; have := g2 x hx; omega⟩) (by omega) hnb fun hd' ct' w5 u5 B5 n1 n2 => ⟨rfl, ?_, ?_⟩
    · have n1' := u1.new (b := b) (by simp)
      refine kpm u5 (fun x hx => by rw [List.mem_singleton] at hx; omega) (fun x hx hm => ?_)
      rw [List.mem_singleton] at hx
      rcases List.mem_append.1 hm with q | q
      · have := ltb.1 x q; omega
      · have := g2 x q; omega
    · exact keep s2 w4 hd' ct' w5 v4 u5 (fun x hx => by have := g2 x hx; omega) B5 n1 n2
  · -- the numbers
    refine c14 (H.old u1) fun w2 u2 => ⟨_, _, rfl, kp u2, ?_⟩
    have v2 := u1.then u2
    refine c37 r (V.old v2) ⟨_, _, rfl, kp (Upd.refl _), brt (by simp) (brt (by simp) fun w3 u3 => ?_)⟩
    have v3 := v2.then u3
    refine c16 (H.old v3) ⟨_, rfl, kp (Upd.refl _), u3, ?_⟩
    refine c38 r (V.old v3) fun w4 u4 => ⟨_, rfl, kp u4, u3.then u4, brt (by simp) ?_⟩
    have v4 := v3.then u4
    refine c15 (H.old v4) ⟨_, rfl, kp (Upd.refl _), u3.then u4, ?_⟩
    refine c39 r (V.old v4) fun w5 u5 => ⟨_, rfl, kp u5, ?_⟩
    have := same w5 [] (v4.then u5)
    simpa using this
  · -- the bytes
    refine c18 (H.old u1) (fun hw => (r.bytes hw).1) (by omega) fun s2 w2 u2 hs2 ho2 => ⟨_, _, rfl, kp u2, ?_⟩
    have v2 := u1.then u2
    refine c28 r (V.old v2) fun s3 w3 u3 hs3 ho3 => ⟨_, _, rfl, kp u3, ?_⟩
    intro J hJ
    have hlen : (if wholeS S then S.buf.take S.fin.toNat else []).length ≤ 65535 := by
      split
      · simp; omega
      · simp
    refine brf (by simp) ?_
    refine cSameT (hs2.old u3) hs3 (by omega) fun w4 u4 => ⟨_, rfl, kp u4, brf rfl ?_⟩
    have v4 := (v2.then u3).then u4
    have z1 := u1.size; have z2 := u2.size; have z3 := u3.size; have z4 := u4.size
    have g2 := ho2.blk
    (repeat refine And.intro rfl ?_)
    refine hJ _ ?_
    refine c40 (B.old v4) (hs2.old (u3.then u4)) (((ho2.old u3).old u4).mono (by omega)) (fun x hx => ⟨fun hm => by have := ltb.1 x hm; have := g2 x hx; omega, fun hm => by have := ltb.2 x hm; have := g2 x hx; omega⟩) (by omega) hnb fun hd' ct' w5 u5 B5 n1 n2 => ⟨rfl, ?_, ?_⟩
    · have n1' := u1.new (b := b) (by simp)
      refine kpm u5 (fun x hx => by rw [List.mem_singleton] at hx; omega) (fun x hx hm => ?_)
      rw [List.mem_singleton] at hx
      rcases List.mem_append.1 hm with q | q
      · have := ltb.1 x q; omega
      · have := g2 x q; omega
    · exact keep s2 w4 hd' ct' w5 v4 u5 (fun x hx => by have := g2 x hx; omega) B5 n1 n2
end
end Go.Vc.S11
