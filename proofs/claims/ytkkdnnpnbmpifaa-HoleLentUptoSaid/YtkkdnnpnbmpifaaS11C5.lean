import Derived.Test.YtkkdnnpnbmpifaaS11TxtP5
import Derived.Test.YtkkdnnpnbmpifaaS11Play
open Go Go.Vc Go.Proofs
set_option linter.unusedVariables false
set_option linter.unusedSimpArgs false
set_option autoImplicit false
namespace Go.Vc.S11
/-- steps: what, which, place, bytes, more -/
def cSt : Cod (Int × Int × Int × Sl × Bool) := ⟨5, fun p => [.int .i64 p.1, .int .i64 p.2.1, .int .i64 p.2.2.1, p.2.2.2.1.val, .bool p.2.2.2.2], fun _ => rfl, by simp [Value.oneCell', Sl.val]⟩
def StOk (w : World) (p : Int × Int × Int × Sl × Bool) : Prop := ∃ l, SeesB w p.2.2.2.1 l ∧ Byt l ∧ p.2.2.2.1.len ≤ p.2.2.2.1.cap
section
variable {w0 w' w w1 : World} {R : SV → World → Prop} {n nb bk : Nat} {p0 q0 p1 q1 : Option Addr} {L : List Nat}
/-- another book -/
theorem Play.rebook {b2 e : Nat} {ns : List Nat} {L' : List Nat} (h : Play w0 w p0 q0 p1 q1 n nb bk L) (u : Upd [] ns w w1) (hb : b2 ∈ ns) (hr : w1.heap[b2]? = some (.cells (SV.cells (.struct [.slice ⟨none, 0, 0⟩, .slice ⟨none, 0, 0⟩, .slice ⟨none, 0, 0⟩, .slice ⟨none, 0, 0⟩])).toArray e (0, 0)))
    (hL : ∀ x ∈ L', (x ∈ L ∨ x ∈ ns) ∧ x ≠ b2) : Play w0 w1 p0 q0 p1 q1 n 0 b2 L' := by
  have hu := h.u
  obtain ⟨S0, S1, bs0, bs1, hd, ct, a, b, c, d, e, f, g⟩ := h
  have nbb := u.new hb
  have z := g.size; have z1 := u.size
  have la := a.lt; have lb := b.lt
  refine ⟨S0, S1, bs0, bs1, [b2], [], a.old u, b.old u, book_new hr (by omega), d, fun x hx => ⟨fun hm => ?_, by simp⟩, fun x hx => ?_, hu.then u⟩
  · rw [List.mem_singleton] at hm
    subst hm
    rcases hx with q | q
    · have := la _ q; omega
    · have := lb _ q; omega
  · obtain ⟨h1, h2⟩ := hL x hx
    rcases h1 with q | q
    · have := f x q
      exact ⟨this.1, by omega, this.2.2.1, this.2.2.2.1, by simpa using h2, by simp⟩
    · have := u.new q
      exact ⟨by omega, this.2, fun hm => by have := la x hm; omega, fun hm => by have := lb x hm; omega, by simpa using h2, by simp⟩
theorem BookAt.more {N n' : Nat} {hd ct : List Nat} (B : BookAt N w bk n hd ct) (hn : n ≤ n') : BookAt N w bk n' hd ct := by
  obtain ⟨LB, LG, MB, MG, B', e⟩ := B
  obtain ⟨gb, mb, b1, b2, b3, b4, b5, b6⟩ := B'.bs
  obtain ⟨gg, mg, g1, g2, g3, g4, g5, g6⟩ := B'.gs
  exact ⟨LB, LG, MB, MG, ⟨B'.rows, ⟨gb, mb, b1, b2, b3, by omega, b5, b6⟩, ⟨gg, mg, g1, g2, g3, by omega, g5, g6⟩, B'.ct⟩, e⟩
theorem Play.raise {n' nb' : Nat} (h : Play w0 w p0 q0 p1 q1 n nb bk L) (h1 : n ≤ n') (h2 : nb ≤ nb') : Play w0 w p0 q0 p1 q1 n' nb' bk L := by
  obtain ⟨S0, S1, bs0, bs1, hd, ct, a, b, c, d, e, f, g⟩ := h
  exact ⟨S0, S1, bs0, bs1, hd, ct, a.more h1, b.more h1, c.more h2, d, e, f, g⟩
set_option maxRecDepth 20000 in
theorem c5 {max : Int} {script : Sl} {ps : List (Int × Int × Int × Sl × Bool)} (hs : Sees cSt w script ps) (hps : ∀ p ∈ ps, StOk w p) : Ret Try.prog 5 [.int .i64 max, .slice script] w fun r w1 => r = .bool true ∧ Upd [] [] w w1 := by
  refine f5_of _ _ _ _ ?_
  unfold vc5
  have hsl := hs.len
  refine S11.c20 (fun q => by omega) fun _ _ p q bs w1 u1 a1 => ⟨_, _, _, rfl, fun b1 J hJ => ?_⟩
  have hpn : p.isNone = false := by
    obtain ⟨hp, hq, m, W, B, G, A, D, P, rfl, _⟩ := a1
    rfl
  refine brf rfl (brf hpn fun w2 u2 => ?_)
  have n2 := u2.new (b := b1) (by simp)
  have z1 := u1.size; have z2 := u2.size
  have l1 := a1.lt
  refine S11.c21 (l := []) (a1.old u2) (Sees.nil _ _ _ _) Byt.nil (by simp) (by omega) (by simp [Sl.blk]) fun bs3 w3 u3 a3 n3 => ⟨_, rfl, kpm u3 (fun x hx => by rw [List.mem_singleton] at hx; omega) (fun x hx hm => by rw [List.mem_singleton] at hx; have := l1 x hm; omega), brf rfl fun b4 w4 u4 hr4 => ?_⟩
  have z3 := u3.size; have z4 := u4.size
  have n4 := u4.new (b := b4) (by simp)
  have l3 := a3.lt
  have b1n : b1 ∉ bs3 := fun hm => by
    rcases n3 b1 hm with q | q
    · have := l1 b1 q; omega
    · omega
  refine ⟨_, _, hr4, fun hm => by rw [List.mem_singleton] at hm; simp only at hm; omega, fun w5 u5 hr5 => ?_⟩
  have z5 := u5.size
  have a5 := (a3.old u4).upd u5 (fun x hx hm => by simp only [List.mem_singleton] at hm; have := l3 x hx; omega)
  have hd5 : SeesB w5 ⟨some ⟨b4, 0, none⟩, 8, 8⟩ [97, 98, 99, 100, 101, 102, 103, 104] := sees_row hr5 _ rfl rfl
  refine S11.c21 a5 hd5 (by intro x hx; simp at hx; omega) (by simp) (by omega) (fun x hx => ⟨by simp [Sl.blk] at hx; omega, fun hm => by simp [Sl.blk] at hx; have := l3 x hm; omega⟩) fun bs6 w6 u6 a6 n6 => ⟨_, rfl, kpm u6 (fun x hx => by rw [List.mem_singleton] at hx; omega) (fun x hx hm => by rw [List.mem_singleton] at hx; subst hx; exact b1n hm), brf rfl fun b7 w7 u7 hr7 off7 => ?_⟩
  have z6 := u6.size; have z7 := u7.size
  have n7 := u7.new (b := b7) (by simp)
  have l6 := a6.lt
  have V6 : Upd [] [] w w6 := (((((u1.then u2).step0 u3 (fun x hx => (l1 x hx).1)).then u4).step0 u5 (fun x hx => by simp only [List.mem_singleton] at hx; omega))).step0 u6 (fun x hx => (l3 x hx).1)
  have b1n6 : b1 ∉ bs6 := fun hm => by
    rcases n6 b1 hm with q | q
    · exact b1n q
    · omega
  have pl7 : Play w w7 p q p q 2 0 b7 [b1] := ⟨_, _, bs6, bs6, [b7], [], a6.old u7, a6.old u7, book_new hr7 (by omega), .inr ⟨rfl, rfl, rfl, rfl⟩, fun x hx => ⟨fun hm => by rw [List.mem_singleton] at hm; have := l6 x (hx.elim id id); omega, by simp⟩, fun x hx => by
    rw [List.mem_singleton] at hx
    subst hx
    exact ⟨by omega, by omega, b1n6, b1n6, fun hm => by rw [List.mem_singleton] at hm; omega, by simp⟩, V6.then u7⟩
  refine pl7.c22 (by omega) fun w8 pl8 k8 => ⟨_, rfl, kept_keeps k8 (fun x hx => hx), brf rfl ?_⟩
  clear pl7
  (repeat refine And.intro rfl ?_)
  refine hJ _ ?_
  clear hJ
  refine pl8.c20 fun p2 q2 w9 u9 pl9 => ⟨_, _, _, rfl, kp u9, fun b2 => brf rfl fun b b3 w10 u10 hr10 off10 => ?_⟩
  have nb2 := u10.new (b := b2) (by simp)
  have nbb := u10.new (b := b) (by simp)
  have off3 : ∀ x ∈ [b1, b2, b], x ≠ b3 := fun x hx e => off10 (e ▸ hx)
  have pl10 : Play w w10 p2 q2 p q 2 0 b3 [b1, b2, b] := pl9.rebook u10 (by simp) hr10 (fun x hx => ⟨by
    simp only [List.mem_cons, List.not_mem_nil, or_false] at hx
    rcases hx with rfl | rfl | rfl
    · exact .inl (by simp)
    · exact .inr (by simp)
    · exact .inr (by simp), off3 x hx⟩)
  clear pl9 pl8
  refine ⟨fun i a0 c0 a1 c1 w' => ∃ t : Nat, i = t ∧ t ≤ 120 ∧ Play w w' a0 c0 a1 c1 (t + 2) t b3 [b1, b2, b], fun i _ _ _ _ _ => (120 - i).toNat, ⟨0, rfl, by omega, pl10⟩, ?_⟩
  clear pl10
  rintro i a0 c0 a1 c1 w11 ⟨t, rfl, ht, pl⟩
  have fin : (Ret Try.prog 22 [.struct [.ptr a0, .ptr c0], .int .i64 4, .ptr (some ⟨b3, 0, none⟩)] w11 fun r w12 => ∃ b4 : Bool, r = .bool b4 ∧ Keeps [b1, b2, b] w11 w12 ∧ Br b4 (Ret Try.prog 22 [.struct [.ptr a1, .ptr c1], .int .i64 2, .ptr (some ⟨b3, 0, none⟩)] w12 fun r w13 => ∃ b5 : Bool, r = .bool b5 ∧ Keeps [b1, b2, b] w12 w13 ∧ Br b5 (Ret Try.prog 23 [.ptr (some ⟨b3, 0, none⟩)] w13 fun r w14 => ∃ b6 : Bool, r = .bool b6 ∧ Keeps [b1, b2, b] w13 w14 ∧ (SV.bool b6 = .bool true ∧ Upd [] [] w w14)) (SV.bool false = .bool true ∧ Upd [] [] w w13)) (SV.bool false = .bool true ∧ Upd [] [] w w12)) := by
    refine pl.c22 (by omega) fun w12 pl12 k12 => ⟨_, rfl, kept_keeps k12 (fun x hx => hx), brt rfl ?_⟩
    refine pl12.swap.c22 (by omega) fun w13 pl13 k13 => ⟨_, rfl, kept_keeps k13 (fun x hx => hx), brt rfl ?_⟩
    exact pl13.c23 (by omega) fun w14 u14 pl14 => ⟨_, rfl, kp u14, rfl, pl14.u⟩
  intro J2 hJ2
  refine brd (fun hlt => brd (fun h120 => ?_) (fun _ => fin)) (fun _ => fin)
  clear fin
  (repeat refine And.intro rfl ?_)
  refine hJ2 _ ?_
  clear hJ2
  intro J3 hJ3
  have next : ∀ a0' c0' a1' c1' w', Play w w' a0' c0' a1' c1' (t + 3) (t + 1) b3 [b1, b2, b] → J3 a0' c0' a1' c1' w' := fun a0' c0' a1' c1' w' pl' => by
    refine hJ3 _ _ _ _ _ ?_
    (repeat refine And.intro rfl ?_)
    exact ⟨⟨t + 1, wr_succ (by omega), by omega, pl'⟩, by rw [wr_succ (q := t) (by omega)]; (try dsimp only); omega⟩
  clear hJ3
  have ht2 : t < ps.length := by omega
  have hs11 := hs.old pl.u
  have e0 := hs11.elem ht2 0 (by simp [cSt])
  have e1 := hs11.elem ht2 1 (by simp [cSt])
  have e2 := hs11.elem ht2 2 (by simp [cSt])
  have e3 := hs11.elem ht2 3 (by simp [cSt])
  have e4 := hs11.elem ht2 4 (by simp [cSt])
  rw [add_zero] at e0
  obtain ⟨l, hl, hb, hc⟩ := hps _ (List.getElem_mem ht2)
  rw [Int.toNat_natCast]
  refine needIx (by omega) (by omega) (hs11.isSome (by decide) (by omega)) ⟨_, e0, _, e1, _, e2, _, e3, _, e4, fun b5 J4 hJ4 => ?_⟩
  have key : ∀ a0' c0' a1' c1' w', Play w w' a0' c0' a1' c1' (t + 3) (t + 1) b3 (b5 :: [b1, b2, b]) → J4 true a0' c0' a1' c1' w' := fun a0' c0' a1' c1' w' pl' => by
    refine hJ4 _ _ _ _ _ _ (brf rfl ?_)
    refine pl'.c23 (by omega) fun w'' u'' pl'' => ⟨_, rfl, kp u'', brf rfl ?_⟩
    (repeat refine And.intro rfl ?_)
    exact next _ _ _ _ w'' (pl''.less (fun x hx => List.mem_cons_of_mem _ hx))
  clear hJ4 next
  have ei : iand .i64 ps[t].2.1 1 = ps[t].2.1 % 2 := by
    have := iand_mask (a := ps[t].2.1) 1 (by omega)
    simpa using this
  dsimp only [cSt, List.getElem_cons_zero, List.getElem_cons_succ] at *
  rw [ei]
  have hv : ps[t].2.1 % 2 = 0 ∨ ps[t].2.1 % 2 = 1 := by omega
  generalize ps[t].2.1 % 2 = v at hv
  clear ei e0 e1 e2 e3 e4
  -- boxes
  have box : ∀ w12, Upd [] [b5] w11 w12 → Play w w12 a0 c0 a1 c1 (t + 2) t b3 (b5 :: [b1, b2, b]) := fun w12 u12 => pl.add u12 (by simp)
  have sub : ∀ x ∈ [b1, b2, b, b5], x ∈ b5 :: [b1, b2, b] := by simp
  have vix : ∀ X : Prop, X → Need (decide (0 ≤ v) && decide (v < 2)) X := fun X x => need (by simp; omega) x
  have pick : ∀ X Y : Prop, (v = 0 → X) → (v = 1 → Y) → Br (decide (v = 0)) X (Br (decide (v = 1)) Y True) := fun X Y hx hy => brd hx (fun h0 => brd hy (fun h1 => trivial))
  refine bre (fun k1 => vix _ (pick _ _ (fun v0 => fun w12 u12 => ?_) (fun v1 => fun w12 u12 => ?_))) (fun k1 => bre (fun k6 => vix _ (pick _ _ (fun v0 => fun w12 u12 => ?_) (fun v1 => fun w12 u12 => ?_))) (fun k6 => bre (fun k5 => vix _ (pick _ _ (fun v0 => fun w12 u12 => ?_) (fun v1 => fun w12 u12 => ?_))) (fun k5 => vix _ (pick _ _ (fun v0 => fun w12 u12 => ?_) (fun v1 => fun w12 u12 => ?_)))))
  · -- a piece, the first
    have p12 := box w12 u12
    have V12 := pl.u.then u12
    refine c13 (hl.old V12) hc fun s13 w13 u13 hs13 ho13 => ⟨_, rfl, kp u13, u12.forget.then u13, ?_⟩
    refine p12.c21 u13 (by simp) hs13 (hb.take _) (by simp; omega) (by omega) ho13.blk fun w14 p14 k14 => ⟨_, rfl, kept_keeps k14 sub, ?_⟩
    (repeat refine And.intro rfl ?_)
    exact key _ _ _ _ w14 (p14.raise (by omega) (by omega))
  · have p12 := box w12 u12
    have V12 := pl.u.then u12
    refine c13 (hl.old V12) hc fun s13 w13 u13 hs13 ho13 => ⟨_, rfl, kp u13, u12.forget.then u13, ?_⟩
    refine p12.swap.c21 u13 (by simp) hs13 (hb.take _) (by simp; omega) (by omega) ho13.blk fun w14 p14 k14 => ⟨_, rfl, kept_keeps k14 sub, ?_⟩
    (repeat refine And.intro rfl ?_)
    exact key _ _ _ _ w14 (p14.swap.raise (by omega) (by omega))
  · -- a long piece
    have p12 := box w12 u12
    intro b6 w13 u13 hr13
    have n13 := u13.new (b := b6) (by simp)
    rw [zeros_cells] at hr13
    refine ⟨u12.forget.then u13, ?_⟩
    refine p12.c21 u13 (by simp) (sees_row hr13 _ rfl (by rw [List.length_replicate])) (fun x hx => by rw [List.eq_of_mem_replicate hx]; omega) (by rw [List.length_replicate]; omega) (by omega) (fun x hx => by simp [Sl.blk] at hx; omega) fun w14 p14 k14 => ⟨_, rfl, kept_keeps k14 sub, ?_⟩
    (repeat refine And.intro rfl ?_)
    exact key _ _ _ _ w14 (p14.raise (by omega) (by omega))
  · have p12 := box w12 u12
    intro b6 w13 u13 hr13
    have n13 := u13.new (b := b6) (by simp)
    rw [zeros_cells] at hr13
    refine ⟨u12.forget.then u13, ?_⟩
    refine p12.swap.c21 u13 (by simp) (sees_row hr13 _ rfl (by rw [List.length_replicate])) (fun x hx => by rw [List.eq_of_mem_replicate hx]; omega) (by rw [List.length_replicate]; omega) (by omega) (fun x hx => by simp [Sl.blk] at hx; omega) fun w14 p14 k14 => ⟨_, rfl, kept_keeps k14 sub, ?_⟩
    (repeat refine And.intro rfl ?_)
    exact key _ _ _ _ w14 (p14.swap.raise (by omega) (by omega))
  · -- a new one
    have p12 := box w12 u12
    refine p12.c20 fun p' q' w13 u13 p13 => ⟨_, _, _, rfl, kp u13, vix _ (pick _ _ (fun v0' => fun w14 u14 => ?_) (fun v1' => by omega))⟩
    (repeat refine And.intro rfl ?_)
    exact key _ _ _ _ w14 ((p13.upd u14 (fun x hx => by rw [List.mem_singleton] at hx; exact .inr (by simp [hx]))).raise (by omega) (by omega))
  · have p12 := box w12 u12
    refine p12.swap.c20 fun p' q' w13 u13 p13 => ⟨_, _, _, rfl, kp u13, vix _ (pick _ _ (fun v0' => by omega) (fun v1' => fun w14 u14 => ?_))⟩
    (repeat refine And.intro rfl ?_)
    exact key _ _ _ _ w14 ((p13.upd u14 (fun x hx => by rw [List.mem_singleton] at hx; exact .inr (by simp [hx]))).swap.raise (by omega) (by omega))
  · -- asked
    have p12 := box w12 u12
    refine p12.c22 (by omega) fun w13 p13 k13 => ⟨_, rfl, kept_keeps k13 sub, ?_⟩
    (repeat refine And.intro rfl ?_)
    exact key _ _ _ _ w13 (p13.raise (by omega) (by omega))
  · have p12 := box w12 u12
    refine p12.swap.c22 (by omega) fun w13 p13 k13 => ⟨_, rfl, kept_keeps k13 sub, ?_⟩
    (repeat refine And.intro rfl ?_)
    exact key _ _ _ _ w13 (p13.swap.raise (by omega) (by omega))
end
end Go.Vc.S11
