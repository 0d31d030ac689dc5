import Derived.Test.YtkkdnnpnbmpifaaS11L6
open Go Go.Vc Go.Proofs
set_option linter.unusedVariables false
set_option linter.unusedSimpArgs false
set_option autoImplicit false
namespace Go.Vc.S11
section
variable {w : World} {R : SV → World → Prop} {N h m : Nat} {S : Hs} {B G : Sl}
theorem errS_new {mx : Int} (h : 1 ≤ mx) : errS ⟨mx, [], [(0, mx)], -1, 0, []⟩ 0 1 false = 0 := by
  unfold errS topS
  rw [if_neg (by omega), if_neg (by simp), if_neg (by omega), if_neg (by dsimp only; omega), if_neg (by simp), if_neg (by simp), if_neg (by simp)]
theorem put_new {mx : Int} (h : 1 ≤ mx) : putS ⟨mx, [], [(0, mx)], -1, 0, []⟩ 0 [7] false = ⟨mx, [7], [], 1, 1, [(0, 1, false)]⟩ := by
  have a1 : cutG 0 1 [(0, mx)] = if 1 < mx then [(1, mx)] else [] := by
    simp only [cutG]
    rw [if_neg (by omega), if_neg (by omega), if_neg (by omega)]
    simp only [List.nil_append, List.append_nil]
    by_cases q : 1 < mx
    · rw [if_pos q, show min mx 1 = 1 by omega, if_pos q]
    · rw [if_neg q, if_neg (by omega)]
  have a2 : newN 0 1 [(0, mx)] = 1 := by
    simp only [newN]
    rw [if_neg (by omega), if_neg (by omega)]
    omega
  have a3 : putB 0 1 [7] [(0, mx)] [0] = [7] := by
    simp only [putB]
    rw [if_neg (by omega), if_neg (by omega), show min mx 1 = 1 by omega]
    simp [blit]
  have a4 : finG ⟨mx, [], [(0, mx)], -1, 0, []⟩ 1 false (if 1 < mx then [(1, mx)] else []) = [] := by
    unfold finG
    by_cases q : 1 < mx
    · simp [q]
    · simp [q]
  unfold putS
  simp only [List.length_singleton, List.nil_append, List.length_nil]
  rw [show (0 : Int) + ((1 : Nat) : Int) = 1 by omega, a1, a2, a4]
  simp [a3]
set_option maxRecDepth 20000 in
/-- what is asked behind the last piece -/
theorem t6 {w0 : World} {J : Sl → Int → World → Prop} {mx : Int} {s : Sl} {tk : List (Int × Sl × Bool)} {ls : List (Int × List Int)} (t : St6 w0 w h m mx S B G s tk ls ls) (hn : tk.length ≤ 120) (hR : ∀ w1, Upd [] [] w0 w1 → R (.bool true) w1) (hJ : tail6 s w (some ⟨h, 0, none⟩) R S.fin J) : J s S.fin w := by
  unfold tail6 at hJ
  refine hJ ?_
  clear hJ
  have hsl := t.T.sees.len
  have hTl := t.T.len
  have gm := t.g.mx
  have bl := t.g.bl
  have u0 := t.u
  refine bre (fun h0 => ?_) (fun h0 => ?_)
  · -- no piece was taken
    have hl : ls = [] := List.eq_nil_of_length_eq_zero (by omega)
    have hS := t.e hl
    have hm1 : 1 ≤ mx := by rw [← t.hx]; omega
    have H := t.H
    subst hS
    intro b w1 u1 hr
    have nb := u1.new (b := b) (by simp)
    have lt := H.lt
    refine c12 (l := [7]) (H.old u1) t.g.ok (sees_row hr [7] rfl rfl) (Nat.le_refl _) (by intro x hx; simp at hx; omega) (fun x hx => ⟨by simp [Sl.blk] at hx; omega, fun hm => by have := (lt x hm).2; simp [Sl.blk] at hx; omega⟩) (fun w2 u2 hne => absurd (errS_new hm1) hne) (fun B' G' w2 he V2 H2 _ => ?_)
    have g2 := t.g.put he (by intro x hx; simp at hx; omega)
    rw [List.length_singleton, put_new hm1] at *
    have a2 : newN 0 (0 + ((1 : Nat) : Int)) [(0, mx)] = 1 := by
      simp only [newN]
      rw [if_neg (by omega), if_neg (by omega)]
      omega
    rw [a2]
    refine ⟨_, _, _, _, rfl, fun b2 w3 u3 => ?_⟩
    refine c18 (H2.old u3) (by simp) (by simp) fun s4 w4 u4 hs4 ho4 => ⟨_, _, rfl, kp u4, brt rfl (brt rfl (brt rfl ?_))⟩
    have e4 : (if wholeS ⟨mx, [7], [], 1, 1, [(0, 1, false)]⟩ = true then ([7] : List Int).take (Int.toNat 1) else []) = [7] := rfl
    rw [e4] at hs4
    have hl4 : s4.len = 1 := hs4.len
    refine brt (by rw [hl4]; rfl) (need (by simp [hl4]; exact hs4.isSome (by decide) (by simp)) ⟨7, ?_, ?_⟩)
    · have := byteC hs4 0 (by simp)
      exact this
    · exact hR w4 (((u0.then u1).step0 V2 (fun x hx => (H.lt x hx).1)).then (u3.then u4))
  · have hne : 0 < ls.length := by omega
    have H := t.H
    refine c18 H (fun hw => (t.f.bytes t.g hw).2.1) (by omega) fun s1 w1 u1 hs1 ho1 => ⟨_, _, rfl, ?_⟩
    have t1 := t.old u1
    refine brn (fun hw => ?_) (fun hw => ?_)
    · rw [hw] at hs1
      have hl1 : s1.len = 0 := hs1.len
      refine brt (by simp [hl1]) ?_
      refine c16 t1.H ⟨_, rfl, ?_⟩
      rw [hw]
      exact hR w1 t1.u
    · rw [if_pos hw] at hs1
      obtain ⟨f0, fl, fb⟩ := t.f.bytes t.g hw
      have hl1 := hs1.len
      rw [List.length_take] at hl1
      have eb : ∀ i, 0 ≤ i → i < S.fin → bt (S.buf.take S.fin.toNat) i = bt S.buf i := fun i h0 hi => by
        unfold bt
        simp only [List.getD_eq_getElem?_getD]
        rw [List.getElem?_take_of_lt (by omega)]
      refine brf (by simp; omega) ?_
      refine ⟨fun i w' => Upd [] [] w1 w' ∧ ∃ k : Nat, i = k ∧ k ≤ S.fin.toNat, fun i _ => (S.fin - i).toNat, ⟨Upd.refl _, 0, rfl, by omega⟩, ?_⟩
      rintro i w2 ⟨u2, k, rfl, hk⟩
      have t2 := t1.old u2
      refine brd (fun hlt => ?_) (fun hge => hR w2 t2.u)
      intro J1 hJ1 J2 hJ2
      have hks : (k : Int) < S.fin := by omega
      have fk := fb k (by omega) hks
      refine ⟨fun j w' => Upd [] [] w2 w' ∧ ∃ q : Nat, j = q ∧ q ≤ tk.length ∧ firstB (ls.drop q) k = some (bt S.buf k), fun j _ => (tk.length - j).toNat, ⟨Upd.refl _, 0, rfl, by omega, fk⟩, ?_⟩
      rintro j w3 ⟨u3, q, rfl, hq, hf⟩
      intro J3 hJ3
      have t3 := t2.old u3
      have hq1 : q < tk.length := by
        rcases Nat.lt_or_ge q tk.length with c | c
        · exact c
        · rw [List.drop_of_length_le (by omega)] at hf
          cases hf
      have hq2 : q < ls.length := by omega
      rw [List.drop_eq_getElem_cons hq2] at hf
      simp only [firstB] at hf
      have rg := t.r _ (List.getElem_mem hq2)
      have tq := t.T.each q hq1
      have t3q := t3.T.each q hq1
      have hlq := tq.2.len
      have tix : ∀ (w' : World) (X : Prop), St6 w0 w' h m mx S B G s tk ls ls → X → Need (decide (0 ≤ (q : Int)) && decide ((q : Int) < (s.len : Int)) && s.ptr.isSome) X := fun w' X t' x => needIx (by omega) (by omega) (t'.T.sees.isSome (by decide) (by omega)) x
      have c0 : ∀ w', St6 w0 w' h m mx S B G s tk ls ls → w'.cell? (s.at 3 (Int.toNat (q : Int))) = some (.int .i64 ls[q].1) := fun w' t' => by
        have := t'.T.sees.elem hq1 0 (by simp [cPc])
        rw [add_zero] at this
        rw [Int.toNat_natCast, ← tq.1]
        exact this
      have c1 : ∀ w', St6 w0 w' h m mx S B G s tk ls ls → w'.cell? ((s.at 3 (Int.toNat (q : Int))).add 1) = some tk[q].2.1.val := fun w' t' => by
        rw [Int.toNat_natCast]
        exact t'.T.sees.elem hq1 1 (by simp [cPc])
      have next : ¬ (ls[q].1 ≤ (k : Int) ∧ (k : Int) < ls[q].1 + ls[q].2.length) → ∀ w4, Upd [] [] w3 w4 → J3 w4 := fun hno w4 u4 => hJ3 _ ⟨⟨u3.then u4, q + 1, wr_succ (by omega), by omega, by rw [if_neg hno] at hf; exact hf⟩, by rw [wr_succ (q := q) (by omega)]; (try dsimp only); omega⟩
      clear hJ3
      refine brd (fun _ => tix _ _ t3 ⟨_, c0 _ t3, brd (fun a => next (by omega)) (fun a => tix _ _ t3 ⟨_, c0 _ t3, tix _ _ t3 ⟨_, c1 _ t3, ?_⟩⟩)⟩) (fun c => absurd (show (q : Int) < (s.len : Int) by omega) c)
      rw [hlq, wr_i64 (by omega) (by omega)]
      refine brd (fun a2 => next (by omega)) (fun a2 => fun w4 u4 => ?_)
      rw [if_pos (by omega)] at hf
      have hv := Option.some.inj hf
      refine hJ2 _ _ ?_
      clear hJ2 next
      have t4 := t3.old u4
      refine brf (by simp; omega) ?_
      refine needB ((hs1.old u2).old (u3.then u4)) (by omega) (by simp; omega) ⟨_, ((hs1.old u2).old (u3.then u4)).byte (by omega) (by simp; omega), ?_⟩
      refine tix _ _ t4 ⟨_, c1 _ t4, tix _ _ t4 ⟨_, c0 _ t4, ?_⟩⟩
      have e5 : wr .i64 ((k : Int) - ls[q].1) = (k : Int) - ls[q].1 := wr_i64 (by omega) (by omega)
      rw [e5]
      have hd4 := (t4.T.each q hq1).2
      refine needB hd4 (by omega) (by omega) ⟨_, hd4.byte (by omega) (by omega), ?_⟩
      refine brf (by rw [eb k (by omega) hks, hv]; simp) fun w5 u5 => ?_
      exact hJ1 _ ⟨⟨((u2.then u3).then u4).then u5, k + 1, wr_succ (by omega), by omega⟩, by rw [wr_succ (q := k) (by omega)]; (try dsimp only); omega⟩
set_option maxRecDepth 20000 in
theorem c6 {max : Int} {pieces : Sl} {ps : List (Int × Sl × Bool)} (hp : Sees cPc w pieces ps) (hps : ∀ p ∈ ps, PcOk w p) : Ret Try.prog 6 [.int .i64 max, .slice pieces] w fun r w1 => r = .bool true ∧ Upd [] [] w w1 := by
  refine f6_of _ _ _ _ ?_
  unfold vc6
  have hpl := hp.len
  intro J hJ
  have main : ∀ mx, 1 ≤ mx → mx ≤ 65535 → J mx w := by
    intro mx h1 h2
    refine hJ _ _ ?_
    clear hJ
    refine c10 (fun q => by omega) fun _ _ h m G w1 u1 H1 => ⟨_, _, rfl, ?_⟩
    have g1 := Good.new h1 h2
    intro J2 hJ2
    refine brf rfl (brf (by simp) ?_)
    refine hJ2 _ ?_
    clear hJ2
    intro J3 hJ3
    refine ⟨fun s n i w' => ∃ (S : Hs) (B G : Sl) (tk : List (Int × Sl × Bool)) (ls : List (Int × List Int)) (t : Nat), St6 w w' h m mx S B G s tk ls ls ∧ n = S.fin ∧ i = t ∧ t ≤ ps.length ∧ tk.length ≤ t ∧ t ≤ 120, fun _ _ i _ => (ps.length - i).toNat, ⟨_, _, _, [], [], 0, ⟨g1, First.new h1, rfl, fun _ => rfl, by simp, H1, u1.forget, Took.nil, Own.none _ _ _, by simp [Sl.blk], by simp⟩, rfl, rfl, by omega, by simp, by omega⟩, ?_⟩
    rintro s n i w2 ⟨S, B, G', tk, ls, t, st, rfl, rfl, ht, htk, h120⟩
    intro J4 hJ4
    have fin : J3 s S.fin w2 := t6 st (by omega) (fun w3 u3 => ⟨rfl, u3⟩) (hJ3 _ _ _)
    clear hJ3
    refine brd (fun hlt => brd (fun hlt2 => ?_) (fun _ => fin)) (fun _ => fin)
    clear fin
    refine hJ4 _ ?_
    clear hJ4
    intro J5 hJ5
    have ht2 : t < ps.length := by omega
    have again : ∀ (S : Hs) (B G s : Sl) (tk : List (Int × Sl × Bool)) (ls : List (Int × List Int)) (w3 : World), St6 w w3 h m mx S B G s tk ls ls → tk.length ≤ t + 1 → J5 s S.fin w3 := fun S B G s tk ls w3 st3 hk => hJ5 _ _ _ ⟨⟨S, B, G, tk, ls, t + 1, st3, rfl, wr_succ (by omega), by omega, hk, by omega⟩, by rw [wr_succ (q := t) (by omega)]; (try dsimp only); omega⟩
    clear hJ5
    have hp2 := hp.old st.u
    have c0 := hp2.elem ht2 0 (by simp [cPc])
    have c1 := hp2.elem ht2 1 (by simp [cPc])
    have c2 := hp2.elem ht2 2 (by simp [cPc])
    rw [add_zero] at c0
    obtain ⟨l, hl, hb, hc⟩ := hps _ (List.getElem_mem ht2)
    rw [Int.toNat_natCast]
    refine needIx (by omega) (by omega) (hp2.isSome (by decide) (by omega)) ⟨_, c0, _, c1, _, c2, fun b1 w3 u3 => ?_⟩
    have st3 := st.old u3
    have nb1 := u3.new (b := b1) (by simp)
    refine c13 (hl.old st3.u) hc fun s6 w4 u4 hs6 ho6 => ⟨_, rfl, kp u4, fun w5 u5 => ?_⟩
    have z3 := u3.size; have z4 := u4.size; have z5 := u5.size
    have sB := ho6.blk
    have st5 : St6 w w5 h m mx S B G' s tk ls ls := st.over (st3.old u4) u5 (fun x hx => by rw [List.mem_singleton] at hx; omega)
    have n6 : ∀ x ∈ s6.blk, x ∉ [b1] := fun x hx hm => by have := (sB x hx).1; rw [List.mem_singleton] at hm; omega
    have hs5 := hs6.upd u5 n6
    have b6 : ∀ x ∈ s6.blk, w3.heap.size ≤ x ∧ x < w4.heap.size := sB
    have hb6 : Byt (l.take 4096) := hb.take _
    have b1n : ∀ (S : Hs) (B G : Sl) (w' : World), w2.heap.size ≤ w'.heap.size → True := fun _ _ _ _ _ => trivial
    have k1 : ∀ x ∈ [b1], x < w5.heap.size := fun x hx => by rw [List.mem_singleton] at hx; omega
    refine c15 st5.H ⟨_, rfl, kp (Upd.refl _), ?_⟩
    refine c11 st5.H (by have := st.g.ok.gl; omega) fun s7 w6 u6 hs7 ho7 => ⟨_, rfl, kp u6, ?_⟩
    have st6 := st5.old u6
    have z6 := u6.size
    have lt2 := st.H.lt
    have dis6 : ∀ x ∈ s6.blk, x < w6.heap.size ∧ x ∉ hblk h B G' m := fun x hx => by
      have := b6 x hx
      exact ⟨by omega, fun hm => by have := (lt2 x hm).2; omega⟩
    refine c12 st6.H st.g.ok (hs5.old u6) ho6.le hb6 dis6 (fun w7 u7 hne => ⟨_, _, _, _, rfl, kp u7, fun b3 => ?_⟩) (fun B7 G7 w7 he V7 H7 hn7 => ⟨_, _, _, _, rfl, kpm V7 (fun x hx => by have := k1 x hx; omega) (fun x hx hm => by rw [List.mem_singleton] at hx; have := (lt2 x hm).2; omega), fun b3 => ?_⟩)
    · -- refused: nothing has changed
      have st7 := st6.old u7
      refine brt (by simpa using hne) (brf (by simp) fun w8 u8 => ?_)
      have st8 := st7.old u8
      refine c15 st8.H ⟨_, rfl, kp (Upd.refl _), brf (by simp) ?_⟩
      refine c11 st8.H (by have := st.g.ok.gl; omega) fun s9 w9 u9 hs9 ho9 => ⟨_, rfl, kp u9, ?_⟩
      refine c24T hs9 (hs7.old ((u7.then u8).then u9)) (by have := st.g.ok.gl; omega) fun w10 u10 => ⟨_, rfl, kp u10, brf rfl ?_⟩
      exact again S B G' s tk ls w10 ((st8.old u9).old u10) (by omega)
    · -- taken
      obtain ⟨p1, p2, _, _, p3, p4, p5, p6, p7⟩ := errS_ok he
      have gmx := st.g.mx
      have st7 := st6.put he hb6 V7 H7 hn7
      have z7 := V7.size
      have g7 := st7.g
      have nn := newN_nonneg (off := ps[t].1) (e := ps[t].1 + ((l.take 4096).length : Int)) (by omega) st.g.ri
      have nb := g7.sum
      have nl := lens_nonneg g7.ri
      have nbb := g7.bnd_le
      have nhe := st.g.he
      have hl6 := hs5.len
      have eH : (putS S ps[t].1 (l.take 4096) ps[t].2.2).held = S.held + newN ps[t].1 (ps[t].1 + ((l.take 4096).length : Int)) S.gaps := rfl
      have eM : (putS S ps[t].1 (l.take 4096) ps[t].2.2).max = S.max := rfl
      refine brf rfl ?_
      intro J6 hJ6
      refine brf (by rw [show newN ps[t].1 (ps[t].1 + ((l.take 4096).length : Int)) S.gaps + (((l.take 4096).length : Int) - newN ps[t].1 (ps[t].1 + ((l.take 4096).length : Int)) S.gaps) = ((l.take 4096).length : Int) by omega, wr_i64 (by omega) (by omega), hl6]; simp) ?_
      intro w8 u8
      have n3 := u8.new (b := b3) (by simp)
      have z8 := u8.size
      have st8 := st7.old u8
      refine c15 st8.H ⟨_, rfl, kp (Upd.refl _), u8.forget, ?_⟩
      refine brf (by rw [eH, wr_i64 (by omega) (by omega)]; simp) ?_
      refine brf (by rw [hl6]; exact beq_eq_false_iff_ne.2 (by omega)) ?_
      refine ⟨rfl, rfl, ?_⟩
      refine hJ6 _ ?_
      clear hJ6
      intro b4 w9 u9 hr9
      have n4 := u9.new (b := b4) (by simp)
      have z9 := u9.size
      have st9 := st8.old u9
      have ob := st.o.blk
      have hk9 : ∀ x ∈ s.blk, x ∉ [b1, b3] := fun x hx hm => by
        have := (ob x hx).2
        simp only [List.mem_cons, List.not_mem_nil, or_false] at hm
        omega
      have hd9 : SeesB w9 s6 (l.take 4096) := ((hs5.old u6).upd V7 (fun x hx => (dis6 x hx).2)).old (u8.then u9)
      refine append_own (c := cPc) (new := [(ps[t].1, s6, ps[t].2.2)]) st9.T.sees st9.o (sees_row hr9 [(ps[t].1, s6, ps[t].2.2)] rfl rfl) st9.u.size hk9 (by decide) (by simp; omega) fun r w10 hr10 ho10 V10 hn10 => ?_
      have hdd : ∀ x ∈ s6.blk, x < w9.heap.size ∧ x ∉ hblk h B7 G7 m ∧ x ∉ s.blk := fun x hx => by
        have hx6 := dis6 x hx
        have hx7 := b6 x hx
        refine ⟨by omega, fun hm => ?_, fun hm => by have := (ob x hm).2; omega⟩
        rcases hn7 x hm with q | q
        · exact hx6.2 q
        · omega
      have stA := St6.app (p := (ps[t].1, s6, ps[t].2.2)) st9 hd9 hdd hr10 ho10 V10 hn10
      have fin : ∀ w11, Upd [] [] w10 w11 → J5 r (putS S ps[t].1 (l.take 4096) ps[t].2.2).fin w11 := fun w11 u11 => again _ B7 G7 r _ _ w11 (stA.old u11) (by simp; omega)
      clear again
      intro J7 hJ7
      have key : J7 (putS S ps[t].1 (l.take 4096) ps[t].2.2).fin w10 := by
        refine hJ7 _ _ ?_
        clear hJ7
        have HA := stA.H
        have hfi := g7.fi
        have whole := fun h0 => whole_held g7 h0
        refine c14 HA fun w11 u11 => ⟨_, _, rfl, kp u11, brf (by simp) ?_⟩
        have HB := HA.old u11
        refine brb (fun hk => ?_) (fun hk => ?_)
        · have h0 : 0 ≤ (putS S ps[t].1 (l.take 4096) ps[t].2.2).fin := of_decide_eq_true hk
          refine brf (by rw [show imax (putS S ps[t].1 (l.take 4096) ps[t].2.2).fin 0 = (putS S ps[t].1 (l.take 4096) ps[t].2.2).fin by unfold imax; split <;> omega]; simp) ?_
          refine c16 HB ⟨_, rfl, kp (Upd.refl _), brt hk ?_⟩
          refine c15 HB ⟨_, rfl, kp (Upd.refl _), brf ?_ (fin w11 u11)⟩
          rw [whole h0]
          by_cases q : (putS S ps[t].1 (l.take 4096) ps[t].2.2).held = (putS S ps[t].1 (l.take 4096) ps[t].2.2).fin
          · simp [q]
          · rw [decide_eq_false q]; simp [q]
        · have h0 : ¬ 0 ≤ (putS S ps[t].1 (l.take 4096) ps[t].2.2).fin := of_decide_eq_false hk
          refine c16 HB ⟨_, rfl, kp (Upd.refl _), brf hk (brf ?_ (fin w11 u11))⟩
          have : wholeS (putS S ps[t].1 (l.take 4096) ps[t].2.2) = false := by unfold wholeS; rw [hk]; rfl
          rw [this]; rfl
      clear hJ7
      have eF : (putS S ps[t].1 (l.take 4096) ps[t].2.2).fin = if ps[t].2.2 = false ∧ S.fin < 0 then ps[t].1 + ((l.take 4096).length : Int) else S.fin := rfl
      rw [eF] at key
      refine brn (fun hm => brd (fun hf => ⟨rfl, rfl, ?_⟩) (fun hf => ⟨rfl, rfl, ?_⟩)) (fun hm => ⟨rfl, rfl, ?_⟩)
      · rw [if_pos ⟨hm, hf⟩] at key
        rw [hl6, wr_i64 (by omega) (by omega)]
        exact key
      · rw [if_neg (fun q => hf q.2)] at key
        exact key
      · rw [if_neg (fun q => by rw [hm] at q; cases q.1)] at key
        exact key
  clear hJ
  exact brd (fun q => main 64 (by omega) (by omega)) (fun q => brd (fun q2 => main 64 (by omega) (by omega)) (fun q2 => main max (by omega) (by omega)))
end
end Go.Vc.S11
