import Derived.Test.YtkkdnnpnbmpifaaS11T8
import Derived.Test.YtkkdnnpnbmpifaaS11C5
open Go Go.Vc Go.Proofs
set_option linter.unusedVariables false
set_option linter.unusedSimpArgs false
set_option autoImplicit false
namespace Go.Vc.S11
section
variable {w : World} {R : SV → World → Prop}
theorem abc_whole : wholeS (stepS ⟨8, [], [(0, 8)], -1, 0, []⟩ 0 [97, 98, 99] false) = true := by decide +kernel
theorem abc_bytes : (stepS ⟨8, [], [(0, 8)], -1, 0, []⟩ 0 [97, 98, 99] false).buf.take (stepS ⟨8, [], [(0, 8)], -1, 0, []⟩ 0 [97, 98, 99] false).fin.toNat = [97, 98, 99] := by decide +kernel
theorem baOf_abc : (baOf [97, 98, 99] == ({ data := #[97, 98, 99] } : ByteArray)) = true := by decide +kernel
theorem PairAt.some_' {N n : Nat} {S : Hs} {p q : Option Addr} {bs : List Nat} (h : PairAt N w p q S n bs) : p.isNone = false := by
  obtain ⟨hp, hq, m, W, B, G, A, D, P, rfl, _⟩ := h
  rfl
set_option maxRecDepth 20000 in
theorem c8 {max : Int} {pieces : Sl} {ps : List (Int × Sl × Bool)} (hp : Sees cPc w pieces ps) (hps : ∀ p ∈ ps, PcOk w p) : Ret Try.prog 8 [.int .i64 max, .slice pieces] w fun r w1 => r = .bool true ∧ Upd [] [] w w1 := by
  refine f8_of _ _ _ _ ?_
  unfold vc8
  have hpl := hp.len
  intro J hJ
  have main : ∀ mx, 1 ≤ mx → mx ≤ 65535 → J mx w := by
    intro mx h1 h2
    refine hJ _ _ ?_
    clear hJ
    refine S11.c20 (fun q => by omega) fun _ _ p p' bs0 w1 u1 a1 => ⟨_, _, _, rfl, fun b1 w2 u2 => ?_⟩
    refine S11.c20 (fun q => by omega) fun _ _ p2 q2 bs2 w3 u3 a3 => ⟨_, _, _, rfl, kp u3, fun b3 J2 hJ2 => brf rfl (brf rfl (brf a1.some_' (brf a3.some_' fun w4 u4 => fun b w5 u5 hr5 => ?_)))⟩
    have nb1 := u2.new (b := b1) (by simp)
    have nb3 := u4.new (b := b3) (by simp)
    have nb := u5.new (b := b) (by simp)
    have z1 := u1.size; have z2 := u2.size; have z3 := u3.size; have z4 := u4.size; have z5 := u5.size
    have l1 := a1.lt; have l3 := a3.lt
    refine ⟨_, _, hr5, fun hm => by simp only [List.mem_cons, List.not_mem_nil, or_false] at hm; omega, fun w6 u6 hr6 => ?_⟩
    have z6 := u6.size
    have V6 : Upd [] [] w w6 := ((((u1.then u2).then u3).then u4).then u5).step0 u6 (fun x hx => by simp only [List.mem_singleton] at hx; omega)
    have a6 := (((a3.mono (N0 := w.heap.size) (by omega)).old u4).old u5).upd u6 (fun x hx hm => by simp only [List.mem_singleton] at hm; have := l3 x hx; omega)
    have c6 := ((((a1.old u2).old u3).old u4).old u5).upd u6 (fun x hx hm => by simp only [List.mem_singleton] at hm; have := l1 x hx; omega)
    have hd6 : SeesB w6 ⟨some ⟨b, 0, none⟩, 3, 3⟩ [97, 98, 99] := sees_row hr6 _ rfl rfl
    refine S11.c21 a6 hd6 (by intro x hx; simp at hx; omega) (by simp) (by omega) (fun x hx => ⟨by simp [Sl.blk] at hx; omega, fun hm => by simp [Sl.blk] at hx; have := l3 x hm; omega⟩) fun bs7 w7 u7 a7 n7 => ⟨_, rfl, kpm u7 (fun x hx => by simp only [List.mem_cons, List.not_mem_nil, or_false] at hx; omega) (fun x hx hm => by simp only [List.mem_cons, List.not_mem_nil, or_false] at hx; have := l3 x hm; omega), brf rfl ?_⟩
    have z7 := u7.size
    have c7' := c6.upd u7 (fun x hx hm => by have := l1 x hx; have := l3 x hm; omega)
    have V7 := V6.step0 u7 (fun x hx => by have := l3 x hx; omega)
    have l7 := a7.lt
    have dis7 : ∀ x ∈ bs0, x ∉ bs7 := fun x hx hm => by
      have := l1 x hx
      rcases n7 x hm with q | q
      · have := l3 x q; omega
      · omega
    have bn7 : ∀ x ∈ [b1, b3], x < w7.heap.size ∧ w.heap.size ≤ x ∧ x ∉ bs7 ∧ x ∉ bs0 := fun x hx => by
      simp only [List.mem_cons, List.not_mem_nil, or_false] at hx
      refine ⟨by omega, by omega, fun hm => ?_, fun hm => by have := l1 x hm; omega⟩
      rcases n7 x hm with q | q
      · have := l3 x q; omega
      · omega
    clear c6 a6 hd6 hr5 hr6 n7
    generalize hS2 : stepS ⟨8, [], [(0, 8)], -1, 0, []⟩ 0 [97, 98, 99] false = S2 at a7
    have w2w : wholeS S2 = true := by rw [← hS2]; exact abc_whole
    have w2b : S2.buf.take S2.fin.toNat = [97, 98, 99] := by rw [← hS2]; exact abc_bytes
    clear hS2
    (repeat refine And.intro rfl ?_)
    refine hJ2 _ ?_
    clear hJ2
    intro J3 hJ3
    -- pieces
    refine ⟨fun i w' => ∃ (t : Nat) (S : Hs) (bs : List Nat), i = t ∧ t ≤ 120 ∧ PairAt w.heap.size w' p p' S t bs ∧ PairAt w.heap.size w' p2 q2 S2 1 bs7 ∧ (∀ x ∈ bs, x ∉ bs7) ∧ (∀ x ∈ [b1, b3], x < w'.heap.size ∧ w.heap.size ≤ x ∧ x ∉ bs7 ∧ x ∉ bs) ∧ Upd [] [] w w', fun i _ => (120 - i).toNat, ⟨0, _, bs0, rfl, by omega, c7', a7, dis7, bn7, V7⟩, ?_⟩
    rintro i w8 ⟨t, S, bs, rfl, ht, a8, a9, dis, bn, V8⟩
    intro J4 hJ4
    have fin : J3 w8 := by
      refine hJ3 _ ?_
      clear hJ3
      have l8 := a8.lt; have l9 := a9.lt
      have a8' := a8; have a9' := a9
      obtain ⟨hp, hq, m, W, B, G, A, D, P, rfl, rfl, r, H, V, _, _, rfl⟩ := a8
      obtain ⟨hp2, hq2, m2, W2, B2, G2, A2, D2, P2, rfl, rfl, r2, H2, V2, _, _, rfl⟩ := a9
      have gl := r.g.ok.gl
      have gb := r.g.bl
      have gb2 := r2.g.bl
      have kb : ∀ x ∈ [b1, b3], x < w8.heap.size := fun x hx => (bn x hx).1
      have hBl : (if wholeS S then S.buf.take S.fin.toNat else []).length ≤ 65535 := by
        split
        · simp; omega
        · simp
      generalize hBB : (if wholeS S then S.buf.take S.fin.toNat else []) = BB at hBl
      refine ⟨fun s s1 i w' => ∃ (t : Nat) (ls : List (List Int)) (gs gg : List Sl), i = t ∧ t ≤ 2 ∧ Upd [] [] w8 w' ∧ LotC cU8 w8.heap.size w' s ls gs ∧ LotC cG w8.heap.size w' s1 (List.replicate t S.gaps) gg ∧ ls.length = 3 * t ∧ (∀ l ∈ ls, l.length ≤ 65535) ∧ (∀ x ∈ lotB s gs, x ∉ lotB s1 gg), fun _ _ i _ => (2 - i).toNat, ⟨0, [], [], [], rfl, by omega, Upd.refl _, LotC.nil _ _ _, LotC.nil _ _ _, rfl, by simp, by simp [lotB, Sl.blk]⟩, ?_⟩
      rintro s s1 i w9 ⟨t', ls, gs, gg, rfl, ht', u9, X, Y, hls, hl5, hxy⟩
      have hgs := X.len
      have hgg := Y.len
      rw [List.length_replicate] at hgg
      have z9 := u9.size
      have lX := X.lt; have lY := Y.lt
      refine brd (fun hlt => ?_) (fun hge => ?_)
      · intro J5 hJ5
        refine c18 (H.old u9) (fun hw => (r.bytes hw).1) (by omega) fun s2 w10 u10 hs2 ho2 => ⟨_, _, rfl, kp u10, ?_⟩
        refine c18 (H.old (u9.then u10)) (fun hw => (r.bytes hw).1) (by omega) fun s3 w11 u11 hs3 ho3 => ⟨_, _, rfl, kp u11, ?_⟩
        have v11 := (u9.then u10).then u11
        refine c28 r (V.old v11) fun s4 w12 u12 hs4 ho4 => ⟨_, _, rfl, kp u12, ?_⟩
        have v12 := v11.then u12
        refine c18 (H2.old v12) (fun hw => (r2.bytes hw).1) (by omega) fun s5 w13 u13 hs5 ho5 => ⟨_, _, rfl, kp u13, ?_⟩
        have v13 := v12.then u13
        refine c11 (H.old v13) (by omega) fun s6 w14 u14 hs6 ho6 => ⟨_, rfl, kp u14, ?_⟩
        have v14 := v13.then u14
        intro J6 hJ6
        rw [hBB] at hs2 hs3 hs4
        rw [if_pos w2w, w2b] at hs5
        have z10 := u10.size; have z11 := u11.size; have z12 := u12.size; have z13 := u13.size; have z14 := u14.size
        have g2 := ho2.blk; have g3 := ho3.blk; have g5 := ho5.blk; have g6 := ho6.blk
        refine brf (by simp) ?_
        refine cSameT (((hs2.old u11).old u12).old (u13.then u14)) ((hs4.old u13).old u14) (by omega) fun w15 u15 => ⟨_, rfl, kp u15, brf rfl ?_⟩
        refine cSameT ((((hs3.old u12).old u13).old u14).old u15) (((hs4.old u13).old u14).old u15) (by omega) fun w16 u16 => ⟨_, rfl, kp u16, brf rfl ?_⟩
        have u146 := u15.then u16
        refine brf (by rw [w2w]; rfl) ?_
        refine strOf ((hs5.old u14).old u146) (by intro x hx; simp at hx; omega) (brf (by rw [baOf_abc]; rfl) ?_)
        have v16 := v14.then u146
        refine c29 r (V.old v16) fun s7 w17 u17 hs7 ho7 => ⟨_, rfl, kp u17, ?_⟩
        refine c24T ((hs6.old u146).old u17) hs7 (by omega) fun w18 u18 => ⟨_, rfl, kp u18, brf rfl ?_⟩
        have v18 := (v16.then u17).then u18
        have z15 := u15.size; have z16 := u16.size; have z17 := u17.size; have z18 := u18.size
        (repeat refine And.intro rfl ?_)
        refine hJ6 _ ?_
        clear hJ6
        intro b19 w19 u19 hr19
        have z19 := u19.size
        have q2 : SeesB w19 s2 BB := ((((((hs2.old u11).old u12).old u13).old u14).old u146).old (u17.then u18)).old u19
        have q3 : SeesB w19 s3 BB := (((((hs3.old u12).old u13).old u14).old u146).old (u17.then u18)).old u19
        have q5 : SeesB w19 s5 [97, 98, 99] := (((hs5.old u14).old u146).old (u17.then u18)).old u19
        have q6 : Sees cG w19 s6 S.gaps := ((hs6.old u146).old (u17.then u18)).old u19
        have o2 : Own w9.heap.size 1 w19 s2 := ((((((ho2.old u11).old u12).old u13).old u14).old u146).old (u17.then u18)).old u19
        have o3 : Own w9.heap.size 1 w19 s3 := ((((((ho3.old u12).old u13).old u14).old u146).old (u17.then u18)).old u19).mono (by omega)
        have o5 : Own w9.heap.size 1 w19 s5 := ((((ho5.old u14).old u146).old (u17.then u18)).old u19).mono (by omega)
        have o6 : Own w9.heap.size 2 w19 s6 := (((ho6.old u146).old (u17.then u18)).old u19).mono (by omega)
        have d23 : Apt s2 s3 := fun x hx hm => by have := g2 x hx; have := g3 x hm; omega
        have d25 : Apt s2 s5 := fun x hx hm => by have := g2 x hx; have := g5 x hm; omega
        have d35 : Apt s3 s5 := fun x hx hm => by have := g3 x hx; have := g5 x hm; omega
        have v99 : Upd [] [] w9 w19 := ((((((u10.then u11).then u12).then u13).then u14).then u146).then (u17.then u18)).then u19
        have lsb : ∀ x ∈ s.blk, x ∉ [b1, b3] := fun x hx hm => by have := (lX x (lotB_mem.2 (.inl hx))).1; have := kb x hm; omega
        refine LotC.appsB (c := cU8) (M := w9.heap.size) (ns := [s2, s3, s5]) (nl := [BB, BB, [97, 98, 99]]) (X.old v99) hr19 rfl rfl rfl (fun i hi => ?_) (fun x hx => ?_) ?_ (fun x hx => (lX x hx).2) z9 (by omega) (by simp; omega) lsb fun ra w20 X20 u20 n20 => ?_
        · match i, hi with
          | 0, _ => exact q2
          | 1, _ => exact q3
          | 2, _ => exact q5
        · simp only [List.mem_cons, List.not_mem_nil, or_false] at hx
          rcases hx with rfl | rfl | rfl
          · exact o2
          · exact o3
          · exact o5
        · exact List.pairwise_cons.2 ⟨fun y hy => by
            simp only [List.mem_cons, List.not_mem_nil, or_false] at hy
            rcases hy with rfl | rfl
            · exact d23
            · exact d25, List.pairwise_cons.2 ⟨fun y hy => by rw [List.mem_singleton] at hy; subst hy; exact d35, List.pairwise_singleton _ _⟩⟩
        intro b21 w21 u21 hr21
        have z20 := u20.size; have z21 := u21.size
        have sL : ∀ x ∈ s.blk, x ∈ lotB s gs := fun x hx => lotB_mem.2 (.inl hx)
        have Y21 := ((Y.old v99).upd u20 (fun x hx hm => hxy x (sL x hm) hx)).old u21
        have s6n : ∀ x ∈ s6.blk, x ∉ s.blk := fun x hx hm => by have := g6 x hx; have := lX x (sL x hm); omega
        refine LotC.app1B (c := cG) Y21 hr21 rfl rfl ((q6.upd u20 s6n).old u21) (((o6.upd u20 s6n).old u21).mono (by omega)) (fun x hx hm => by have := g6 x hx; have := lY x hm; omega) (by omega) (by omega) (fun x hx hm => by have := (lY x (lotB_mem.2 (.inl hx))).1; have := kb x hm; omega) fun rb w22 Y22 u22 n22 => ?_
        have z22 := u22.size
        have newA : ∀ x ∈ lotB ra (gs ++ [s2, s3, s5]), x ∈ lotB s gs ∨ (w9.heap.size ≤ x ∧ x < w13.heap.size) ∨ w19.heap.size ≤ x := fun x hx => by
          rcases lotB_mem.1 hx with h | ⟨y, hy, h⟩
          · rcases n20 x h with h | h
            · exact .inl (sL x h)
            · exact .inr (.inr h)
          · rcases List.mem_append.1 hy with hy | hy
            · exact .inl (lotB_mem.2 (.inr ⟨y, hy, h⟩))
            · simp only [List.mem_cons, List.not_mem_nil, or_false] at hy
              rcases hy with rfl | rfl | rfl
              · have := g2 x h; exact .inr (.inl (by omega))
              · have := g3 x h; exact .inr (.inl (by omega))
              · have := g5 x h; exact .inr (.inl (by omega))
        have ltA := X20.lt
        have nb : ∀ x ∈ lotB ra (gs ++ [s2, s3, s5]), x ∉ s1.blk := fun x hx hm => by
          have h1 : x ∈ lotB s1 gg := lotB_mem.2 (.inl hm)
          rcases newA x hx with h | h | h
          · exact hxy x h h1
          · have := lY x h1; omega
          · have := lY x h1; omega
        (repeat refine And.intro rfl ?_)
        refine hJ5 _ _ _ ?_
        (repeat refine And.intro rfl ?_)
        refine ⟨⟨t' + 1, ls ++ [BB, BB, [97, 98, 99]], gs ++ [s2, s3, s5], gg ++ [s6], wr_succ (by omega), by omega, (((u9.then v99).step0 u20 (fun x hx => (lX x (sL x hx)).1)).then u21).step0 u22 (fun x hx => (lY x (lotB_mem.2 (.inl hx))).1), (X20.old u21).upd u22 nb, by rw [List.replicate_succ']; exact Y22, by simp [hls]; omega, fun l hl => ?_, fun x hx hm => ?_⟩, by rw [wr_succ (by omega)]; (try dsimp only); omega⟩
        · rcases List.mem_append.1 hl with h | h
          · exact hl5 l h
          · simp only [List.mem_cons, List.not_mem_nil, or_false] at h
            rcases h with rfl | rfl | rfl
            · exact hBl
            · exact hBl
            · simp
        · have h2 := ltA x hx
          rcases lotB_mem.1 hm with h | ⟨y, hy, h⟩
          · rcases n22 x h with h | h
            · exact nb x hx h
            · omega
          · rcases List.mem_append.1 hy with hy | hy
            · have h1 : x ∈ lotB s1 gg := lotB_mem.2 (.inr ⟨y, hy, h⟩)
              rcases newA x hx with q | q | q
              · exact hxy x q h1
              · have := lY x h1; omega
              · have := lY x h1; omega
            · rw [List.mem_singleton] at hy
              subst hy
              have := g6 x h
              rcases newA x hx with q | q | q
              · have := lX x q; omega
              · omega
              · omega
      · have : t' = 2 := by omega
        subst this
        clear hge ht'
        have gsf : ∀ x ∈ gs.flatMap Sl.blk, x ∈ lotB s gs := fun x hx => by
          obtain ⟨y, hy, h⟩ := List.mem_flatMap.1 hx
          exact lotB_mem.2 (.inr ⟨y, hy, h⟩)
        have flat : ∀ (n : Nat) (zs : List (List Int)), zs.length ≤ n → (∀ l ∈ zs, l.length ≤ 65535) → zs.flatten.length ≤ n * 65535 := fun n => by
          induction n with
          | zero => intro zs hz _; rw [List.length_eq_zero_iff.1 (Nat.le_zero.1 hz)]; simp
          | succ n ih =>
            intro zs hz hl
            cases zs with
            | nil => simp
            | cons a zs =>
              have h1 := ih zs (by simp at hz; omega) (fun l h => hl l (List.mem_cons_of_mem _ h))
              have h2 := hl a (by simp)
              rw [List.flatten_cons, List.length_append]
              omega
        have hfl := flat 6 ls (by omega) hl5
        refine cApart ⟨X.row, X.len, X.each⟩ (fun x hx => (X.owns x hx).mono (Nat.zero_le _)) X.off (fun i j hi hj hne => X.index i j hi hj hne) (by omega) (by omega) fun w10 u10 => ⟨_, rfl, kpm u10 (fun x hx => by have := kb x hx; omega) (fun x hx hm => by have := (lX x (gsf x hm)).1; have := kb x hx; omega), brf rfl ?_⟩
        have z10 := u10.size
        have Y10 := Y.upd u10 (fun x hx hm => hxy x (gsf x hm) hx)
        refine t8 (k := S.gaps.length) Y10 (by simp) (fun l hl => by rw [List.eq_of_mem_replicate hl]) (by omega) kb (by omega) fun w11 u11 b12 w12 u12 hr12 off12 => ?_
        have ggf : ∀ x ∈ gg.flatMap Sl.blk, w8.heap.size ≤ x := fun x hx => by
          obtain ⟨y, hy, h⟩ := List.mem_flatMap.1 hx
          exact (lY x (lotB_mem.2 (.inr ⟨y, hy, h⟩))).1
        have z11 := u11.size; have z12 := u12.size
        have v11 : Upd [] [] w8 w11 := (u9.step0 u10 (fun x hx => (lX x (gsf x hx)).1)).step0 u11 ggf
        have n12 := u12.new (b := b12) (by simp)
        have pl : Play w w12 (some ⟨hp, 0, none⟩) (some ⟨hq, 0, none⟩) (some ⟨hp2, 0, none⟩) (some ⟨hq2, 0, none⟩) (t + 1) 0 b12 [b1, b3] := ⟨_, _, _, _, [b12], [], ((a8'.old v11).old u12).more (by omega), ((a9'.old v11).old u12).more (by omega), book_new hr12 (by have := V8.size; omega), .inl dis, fun x hx => ⟨fun hm => by
          rw [List.mem_singleton] at hm
          subst hm
          rcases hx with q | q
          · have := l8 _ q; omega
          · have := l9 _ q; omega, by simp⟩, fun x hx => ⟨(bn x hx).2.1, by have := (bn x hx).1; omega, (bn x hx).2.2.2, (bn x hx).2.2.1, fun hm => by rw [List.mem_singleton] at hm; have := (bn x hx).1; omega, by simp⟩, (V8.then v11).then u12⟩
        refine pl.c22 (by omega) fun w13 pl13 k13 => ⟨_, rfl, kept_keeps k13 (fun x hx => hx), brt rfl ?_⟩
        refine pl13.c22 (by omega) fun w14 pl14 k14 => ⟨_, rfl, kept_keeps k14 (fun x hx => hx), brt rfl ?_⟩
        refine pl14.c22 (by omega) fun w15 pl15 k15 => ⟨_, rfl, kept_keeps k15 (fun x hx => hx), brt rfl ?_⟩
        refine pl15.swap.c22 (by omega) fun w16 pl16 k16 => ⟨_, rfl, kept_keeps k16 (fun x hx => hx), rfl, pl16.u⟩
    refine brd (fun hlt => brd (fun h120 => ?_) (fun _ => ⟨rfl, rfl, fin⟩)) (fun _ => ⟨rfl, rfl, fin⟩)
    clear fin
    (repeat refine And.intro rfl ?_)
    refine hJ4 _ ?_
    clear hJ4
    have ht2 : t < ps.length := by omega
    have hp8 := hp.old V8
    have e0 := hp8.elem ht2 0 (by simp [cPc])
    have e1 := hp8.elem ht2 1 (by simp [cPc])
    have e2 := hp8.elem ht2 2 (by simp [cPc])
    rw [add_zero] at e0
    obtain ⟨l, hl, hb, hc⟩ := hps _ (List.getElem_mem ht2)
    have tix : ∀ X : Prop, X → Need (decide (0 ≤ (t : Int)) && decide ((t : Int) < (pieces.len : Int)) && pieces.ptr.isSome) X := fun X x => needIx (by omega) (by omega) (hp8.isSome (by decide) (by omega)) x
    rw [Int.toNat_natCast]
    refine tix _ ⟨_, e0, tix _ ⟨_, e1, tix _ ⟨_, e2, fun w9 u9 => ?_⟩⟩⟩
    refine c13 (hl.old (V8.then u9)) hc fun s10 w10 u10 hs10 ho10 => ⟨_, rfl, kp u10, u9.then u10, ?_⟩
    have g10 := ho10.blk
    have z9 := u9.size; have z10 := u10.size
    have l8 := a8.lt
    refine S11.c21 ((a8.old u9).old u10) hs10 (hb.take _) (by simp; omega) (by omega) (fun x hx => ⟨(g10 x hx).2, fun hm => by have := l8 x hm; have := g10 x hx; omega⟩) fun bs11 w11 u11 a11 n11 => ⟨_, rfl, kpm u11 (fun x hx => by have := (bn x hx).1; omega) (fun x hx hm => (bn x hx).2.2.2 hm), brf rfl ?_⟩
    have z11 := u11.size
    (repeat refine And.intro rfl ?_)
    refine ⟨⟨t + 1, _, bs11, wr_succ (by omega), by omega, a11, ((a9.old u9).old u10).upd u11 (fun x hx hm => dis x hm hx), fun x hx hm => ?_, fun x hx => ⟨by have := (bn x hx).1; omega, (bn x hx).2.1, (bn x hx).2.2.1, fun hm => ?_⟩, ((V8.then u9).then u10).step0 u11 (fun x hx => (l8 x hx).1)⟩, by rw [wr_succ (by omega)]; (try dsimp only); omega⟩
    · rcases n11 x hx with q | q
      · exact dis x q hm
      · have := a9.lt x hm; omega
    · rcases n11 x hm with q | q
      · exact (bn x hx).2.2.2 q
      · have := (bn x hx).1; omega
  clear hJ
  exact brd (fun q => main 64 (by omega) (by omega)) (fun q => brd (fun q2 => main 64 (by omega) (by omega)) (fun q2 => main max (by omega) (by omega)))
end
end Go.Vc.S11
