import Derived.Test.YtmchllbemgnieaaDoorS9TxtL15
import Derived.Test.YtmchllbemgnieaaDoorS9Again
open Go Go.Vc Go.Proofs Go.ChangeShapes Go.WideShapes Go.ChangeAt Go.RowKit
set_option linter.unusedVariables false
set_option linter.unusedSimpArgs false
set_option autoImplicit false
namespace Go.Vc.S9
section
variable {e : Ends} {w : World} {R : SV → World → Prop}
set_option maxRecDepth 20000 in
/-- a turn, behind what is read of the buffer as UDP and as TCP -/
theorem t15 {w0 : World} {N bd bk K n t b1 b2 b3 b4 b5 b6 : Nat} {now room L W so du du2 sd st sd2 turns : Sl} {l : List Int} {ls : List (List (Int × Sl))} {gs hs : List Sl} {os ot : List (Int × Sl)} {ts : List (Int × Int)} {J : World → Prop}
    (hg : Tabs w) (v : Upd [] [] w0 w) (hN : w0.heap.size ≤ N) (T : Turn N w bd bk now room l K n L W ls gs hs) (hn : now.len = n) (hnl : n ≤ 140737488351232) (hls : ls.length ≤ 100) (hK : K ≤ 281474976710656)
    (ht : Sees cT w0 turns ts) (hv : ∀ y ∈ ts, -9223372036854775808 ≤ y.1 ∧ y.1 ≤ 9223372036854775807) (htl : ts.length < 9223372036854775000)
    (hbs : ∀ x ∈ [b1, b2, b3, b4, b5, b6], x ≠ bd ∧ x ≠ bk ∧ x ∉ now.blk ∧ x ∉ room.blk ∧ x ∉ lotB L gs ∧ x ∉ lotB W hs ∧ x ∉ so.blk ∧ x < w.heap.size)
    (hO : Opts w so (tcOf e l).opts os) (oso : Own N 2 w so) (hso : ∀ x ∈ so.blk, x ≠ bd ∧ x ≠ bk ∧ x ∉ now.blk ∧ x ∉ room.blk ∧ x ∉ lotB L gs ∧ x ∉ lotB W hs)
    (hDu : SeesB w du (udOf e l).data) (hDu2 : SeesB w du2 (udOf e l).data) (hO2 : Opts w st (tcOf e l).opts ot) (hD : SeesB w sd (tcOf e l).data) (hD2 : SeesB w sd2 (tcOf e l).data)
    (hJ : ∀ l' L' W' ls' gs' hs' w', Upd [] [] w0 w' → Turn N w' bd bk now room l' K n L' W' ls' gs' hs' → ls'.length = ls.length + 2 → J w') :
    tail15 (room.sub 1 0 (Int.toNat (now.len : Int)) room.cap) w b1 b2 b3 b4 b5 b6 now bk so R e.sv e.sa e.dv e.da J t turns (udOf e l).sp (udOf e l).dp (udOf e l).ns du (udOf e l).sp (udOf e l).dp (udOf e l).ns du2
      (tcOf e l).sp (tcOf e l).dp (tcOf e l).seq (tcOf e l).ack (tcOf e l).fl (tcOf e l).win (tcOf e l).urg sd (tcOf e l).sp (tcOf e l).dp (tcOf e l).seq (tcOf e l).ack (tcOf e l).fl (tcOf e l).win (tcOf e l).urg st sd2 (udErr e l) (udErr e l) (tcErr e l) (tcErr e l) bd := by
  unfold tail15
  have eN : Int.toNat (now.len : Int) = n := by omega
  have htn := ht.len
  have dl := T.desk.len
  have dle := T.desk.le
  have dcap := T.desk.own.le
  have tlen := T.len
  have nowC := T.own.le
  have hfu := udOf_fit (e := e) T.byt
  have hft := tcOf_fit (e := e) T.byt
  obtain ⟨k1, _, _⟩ := tcOf_small (e := e) T.byt
  have hfw := optL_few T.byt
  have bufS : ∀ w', Upd [] [] w w' → SeesB w' (room.sub 1 0 (Int.toNat (now.len : Int)) room.cap) l := fun w' u' => (T.desk.old u').lent (by omega)
  have bufC : (room.sub 1 0 (Int.toNat (now.len : Int)) room.cap).len ≤ (room.sub 1 0 (Int.toNat (now.len : Int)) room.cap).cap := by simp [Sl.sub]; omega
  refine c33L hg.l (bufS _ (Upd.refl _)) T.byt bufC (by omega) fun s15 os15 w15 u15 hO15 o15 => ⟨_, _, rfl, kp u15, ?_⟩
  refine c40 (T.old u15).sees (by omega) fun s16 w16 u16 h16 o16 => ⟨_, rfl, kp u16, ?_⟩
  refine c46L h16 T.byt o16.le (by omega) fun s17 os17 w17 u17 hO17 o17 => ⟨_, _, rfl, kp u17, ?_⟩
  have t17 := (u15.then u16).then u17
  intro J4 hJ4
  refine c20 ⟨_, rfl, kp (Upd.refl _), brf (by simp) ?_⟩
  refine c23T (hDu.old t17) (hDu2.old t17) hfu.data fun w18 u18 => ⟨_, rfl, kp u18, brf rfl ?_⟩
  have t18 := t17.then u18
  refine c20 ⟨_, rfl, kp (Upd.refl _), brf (by simp) ?_⟩
  refine c28T (hO.old t18) (hO2.old t18) hft.opts (by omega) (hD.old t18) (hD2.old t18) hft.data fun w19 u19 => ⟨_, rfl, kp u19, brf rfl ?_⟩
  have t19 := t18.then u19
  refine c20 ⟨_, rfl, kp (Upd.refl _), brf (by simp) ?_⟩
  refine c47 (hO15.old (((u16.then u17).then u18).then u19)) (hO17.old (u18.then u19)) hfw.2 hfw.2 (by omega) fun w20 u20 => ⟨_, rfl, kp u20, brf (by simp) ?_⟩
  have t20 := t19.then u20
  refine c48T (T.old t20).desk (T.old t20).sees T.byt hK fun w21 u21 => ⟨_, rfl, kp u21, brf rfl ?_⟩
  have t21 := t20.then u21
  (repeat refine And.intro rfl ?_)
  refine hJ4 _ ?_
  clear hJ4
  have lA := T.lists.A.lt
  have lB := T.lists.B.lt
  have ldk := T.desk.box.lt
  have lbk := T.lists.box.lt
  have lnow := T.own.blk
  have lroom := T.desk.own.blk
  have z15 := u15.size; have z16 := u16.size; have z17 := u17.size; have z18 := u18.size; have z19 := u19.size; have z20 := u20.size; have z21 := u21.size
  have zt := t21.size
  have soB := oso.blk
  have s15B := o15.blk
  have t1521 := ((((u16.then u17).then u18).then u19).then u20).then u21
  have bN := T.base
  have hosl := hO.len
  have ho15l := hO15.len
  refine (T.old t21).keep (hO.old t21).row (oso.old t21) (by omega) (by omega) hso fun L1 W1 c1 w22 ms u22 hmN hms22 T22 new22 => ⟨rfl, kpm u22 (fun x hx => by have := (hbs x hx).2.2.2.2.2.2.2; omega) (fun x hx hm => by
      obtain ⟨_, q2, _, _, q5, q6, _, _⟩ := hbs x hx
      rcases hms22 x hm with q | q | q
      · exact q2 q
      · exact q5 (lotB_mem.2 (.inl q))
      · exact q6 (lotB_mem.2 (.inl q))), ?_⟩
  have z22 := u22.size
  have msold : ∀ x ∈ ms, x < w.heap.size := fun x hm => by
    rcases hms22 x hm with q | q | q
    · omega
    · have := lA x (lotB_mem.2 (.inl q)); omega
    · have := lB x (lotB_mem.2 (.inl q)); omega
  have hs15row := (hO15.old t1521).row.upd u22 (fun x hx hm => by have := s15B x hx; have := msold x hm; omega)
  have hs15own := (o15.old t1521).upd u22 (fun x hx hm => by have := s15B x hx; have := msold x hm; omega)
  have v22 := (v.then t21).step0 u22 (fun x hx => by have := hmN x hx; omega)
  have hbs1 : ∀ x ∈ [b1, b2, b3, b4, b5, b6], x ≠ bk ∧ x ∉ lotB L1 (gs ++ [so]) ∧ x ∉ lotB W1 (hs ++ [c1]) := fun x hx => by
    obtain ⟨_, q2, _, _, q5, q6, q7, q8⟩ := hbs x hx
    refine ⟨q2, fun hm => ?_, fun hm => ?_⟩
    · rcases new22 x (by omega) (.inl hm) with q | q | q
      · exact q5 q
      · exact q6 q
      · exact q7 q
    · rcases new22 x (by omega) (.inr hm) with q | q | q
      · exact q5 q
      · exact q6 q
      · exact q7 q
  refine T22.keep hs15row (hs15own.mono (by omega)) (by omega) (by simp; omega) (fun x hx => by
    have hb := s15B x hx
    refine ⟨by omega, by omega, fun hm => ?_, fun hm => ?_, fun hm => ?_, fun hm => ?_⟩
    · have := lnow x hm; omega
    · have := lroom x hm; omega
    · rcases new22 x (by omega) (.inl hm) with q | q | q
      · have := lA x q; omega
      · have := lB x q; omega
      · have := soB x q; omega
    · rcases new22 x (by omega) (.inr hm) with q | q | q
      · have := lA x q; omega
      · have := lB x q; omega
      · have := soB x q; omega) fun L2 W2 c2 w23 ms23 u23 hmN23 hms23 T23 new23 => ⟨rfl, kpm u23 (fun x hx => by have := (hbs x hx).2.2.2.2.2.2.2; omega) (fun x hx hm => by
      obtain ⟨q1, q2, q3⟩ := hbs1 x hx
      rcases hms23 x hm with q | q | q
      · exact q1 q
      · exact q2 (lotB_mem.2 (.inl q))
      · exact q3 (lotB_mem.2 (.inl q))), ?_⟩
  have v23 := v22.step0 u23 (fun x hx => by have := hmN23 x hx; omega)
  intro J6 hJ6
  have fin6 : ∀ (l6' : List Int) (w24 : World), Upd [] [] w0 w24 → Turn N w24 bd bk now room l6' K n L2 W2 (ls ++ [os] ++ [os15]) (gs ++ [so] ++ [s15]) (hs ++ [c1] ++ [c2]) → J6 w24 := by
    intro l6' w24 v24 T24
    refine hJ6 _ ?_
    (repeat refine And.intro rfl ?_)
    refine c51T T24.lists (by simp; omega) (fun x hx => by have := T24.few x hx; omega) fun w25 u25 => ⟨_, rfl, kp u25, brf rfl ?_⟩
    (repeat refine And.intro rfl ?_)
    exact hJ _ _ _ _ _ _ _ (v24.then u25) (T24.old u25) (by simp)
  refine brd (fun hlt => brd (fun hpos => ?_) (fun _ => ?_)) (fun _ => ?_)
  · have ht2 : t < ts.length := by omega
    have hbl : (room.sub 1 0 (Int.toNat (now.len : Int)) room.cap).len = n := by simp [Sl.sub]; omega
    have tC : ∀ w', Upd [] [] w0 w' → w'.cell? ((turns.at 2 (Int.toNat (t : Int))).add 0) = some (.int .i64 ts[t].1) ∧ w'.cell? ((turns.at 2 (Int.toNat (t : Int))).add 1) = some (.int .i64 ts[t].2) := fun w' u' => by
      rw [Int.toNat_natCast]
      have g := ht.old u'
      exact ⟨g.elem ht2 0 (by simp [cT]), g.elem ht2 1 (by simp [cT])⟩
    have tS := ht.isSome (by decide) (by omega)
    have tix : ∀ X : Prop, X → Need (decide (0 ≤ (t : Int)) && decide ((t : Int) < (turns.len : Int)) && turns.ptr.isSome) X := fun X x => needIx (by omega) (by omega) tS x
    refine tix _ ⟨_, (tC _ v23).1, ?_⟩
    have l5l := T23.len
    have dl5 := T23.desk.len
    have dle5 := T23.desk.le
    have cap5 := T23.desk.own.le
    have rb5 := T23.desk.own.blk
    have roomb5 : ∀ x ∈ room.blk, x ∉ [b1, b2, b3, b4, b5, b6] := fun x hx hm => (hbs x hm).2.2.2.1 hx
    have nowb5 : ∀ x ∈ now.blk, x ∉ [b1, b2, b3, b4, b5, b6] := fun x hx hm => (hbs x hm).2.2.1 hx
    refine c50 (n := (room.sub 1 0 (Int.toNat (now.len : Int)) room.cap).len) (by omega) (by omega) (hv _ (List.getElem_mem ht2)) fun p hp => ⟨_, rfl, kp (Upd.refl _), tix _ ⟨_, (tC _ v23).2, ?_⟩⟩
    have hp2 : p < Int.toNat (now.len : Int) := by omega
    have hwin : Win room (room.sub 1 0 (Int.toNat (now.len : Int)) room.cap) 0 (Int.toNat (now.len : Int)) := Win.whole0 (by omega) (by omega) (T23.desk.sees.isSome (by decide) (by simp; omega))
    refine hwin.ix T23.desk.sees hp2 (hwin.store T23.desk.sees T23.desk.own hp2 roomb5 fun w24 hs24 ho24 u24 => ?_)
    have v24 := v23.step0 u24 (fun x hx => by have := (rb5 x hx).1; omega)
    refine tix _ ⟨_, (tC _ v24).2, ?_⟩
    have now24 := T23.sees.upd u24 (fun x hx hm => (T23.a2 x hx).2.2.1 hm)
    have own24 := T23.own.upd u24 (fun x hx hm => (T23.a2 x hx).2.2.1 hm)
    refine needB now24 (by omega) (by omega) ?_
    rw [Int.toNat_natCast]
    refine own_set (c := cU8) (x := wr .u8 ts[t].2) now24 own24 (by decide) (by omega) rfl nowb5 fun w25 h25 o25 u25 => ?_
    (repeat refine And.intro rfl ?_)
    have nb5 := T23.own.blk
    have v25 := v24.step0 u25 (fun x hx => by have := (nb5 x hx).1; omega)
    rw [Nat.zero_add, List.set_append_left _ _ (by omega)] at hs24
    have e5 : l.length = (l.set p (wr .u8 ts[t].2)).length := by simp
    have hb24 := (T23.desk.box.upd u24 T23.desk.off).upd u25 (fun hm => (T23.a2 bd hm).1 rfl)
    have hs25 := hs24.upd u25 (fun x hx hm => (T23.a2 x hm).2.2.1 hx)
    have ho25 := ho24.upd u25 (fun x hx hm => (T23.a2 x hm).2.2.1 hx)
    rw [e5] at hb24 hs25
    have z24 := u24.size; have z25 := u25.size
    have hl25 : Lsts N w25 bk L2 W2 (ls ++ [os] ++ [os15]) (gs ++ [so] ++ [s15]) (hs ++ [c1] ++ [c2]) := ⟨(T23.lists.box.upd u24 (fun hm => (T23.a3 bk hm).1 rfl)).upd u25 (fun hm => (T23.a2 bk hm).2.1 rfl), (T23.lists.A.upd u24 (fun x hx hm => (T23.a3 x hm).2.1 hx)).upd u25 (fun x hx hm => (T23.a2 x hm).2.2.2.1 hx), (T23.lists.B.upd u24 (fun x hx hm => (T23.a3 x hm).2.2 hx)).upd u25 (fun x hx hm => (T23.a2 x hm).2.2.2.2 hx), T23.lists.apart, T23.lists.offA, T23.lists.offB⟩
    have bN23 := T23.base
    exact fin6 (l.set p (wr .u8 ts[t].2)) w25 v25 ⟨h25, o25, T23.byt.set _ (by rw [wr_u8]; omega), by rw [← e5]; exact l5l, ⟨hb24, hs25, by omega, ho25, T23.desk.off⟩, hl25, T23.few, ⟨by omega, by omega, by omega⟩, T23.a1, T23.a2, T23.a3, T23.a4⟩
  · (repeat refine And.intro rfl ?_)
    exact fin6 _ _ v23 T23
  · (repeat refine And.intro rfl ?_)
    exact fin6 _ _ v23 T23
set_option maxRecDepth 20000 in
/-- a turn, behind what is read of the buffer as UDP -/
theorem m15 {w0 : World} {N bd bk K n t b1 b2 b3 b4 : Nat} {now room L W du du2 turns : Sl} {l : List Int} {ls : List (List (Int × Sl))} {gs hs : List Sl} {ts : List (Int × Int)} {J : World → Prop}
    (o : e.Ok) (hg : Tabs w) (v : Upd [] [] w0 w) (hN : w0.heap.size ≤ N) (T : Turn N w bd bk now room l K n L W ls gs hs) (hn : now.len = n) (hnl : n ≤ 140737488351232) (hls : ls.length ≤ 100) (hK : K ≤ 281474976710656)
    (ht : Sees cT w0 turns ts) (hv : ∀ y ∈ ts, -9223372036854775808 ≤ y.1 ∧ y.1 ≤ 9223372036854775807) (htl : ts.length < 9223372036854775000)
    (hbs : ∀ x ∈ [b1, b2, b3, b4], x ≠ bd ∧ x ≠ bk ∧ x ∉ now.blk ∧ x ∉ room.blk ∧ x ∉ lotB L gs ∧ x ∉ lotB W hs ∧ x < w.heap.size)
    (hDu : SeesB w du (udOf e l).data) (hDu2 : SeesB w du2 (udOf e l).data)
    (hJ : ∀ l' L' W' ls' gs' hs' w', Upd [] [] w0 w' → Turn N w' bd bk now room l' K n L' W' ls' gs' hs' → ls'.length = ls.length + 2 → J w') :
    mid15 e.sv e.sa e.dv e.da (room.sub 1 0 (Int.toNat (now.len : Int)) room.cap) w b1 b2 b3 b4 now bk R J t turns (udOf e l).sp (udOf e l).dp (udOf e l).ns du (udOf e l).sp (udOf e l).dp (udOf e l).ns du2 (udErr e l) (udErr e l) bd := by
  unfold mid15
  have eN : Int.toNat (now.len : Int) = n := by omega
  have dl := T.desk.len
  have dle := T.desk.le
  have dcap := T.desk.own.le
  have tlen := T.len
  have bufS : ∀ w', Upd [] [] w w' → SeesB w' (room.sub 1 0 (Int.toNat (now.len : Int)) room.cap) l := fun w' u' => (T.desk.old u').lent (by omega)
  have bufC : (room.sub 1 0 (Int.toNat (now.len : Int)) room.cap).len ≤ (room.sub 1 0 (Int.toNat (now.len : Int)) room.cap).cap := by simp [Sl.sub]; omega
  have lA := T.lists.A.lt
  have lB := T.lists.B.lt
  have ldk := T.desk.box.lt
  have lbk := T.lists.box.lt
  have lnow := T.own.blk
  have lroom := T.desk.own.blk
  refine c27' (e := e) hg o (bufS _ (Upd.refl _)) T.byt bufC (by omega) fun so w1 u1 hO hD oso => ⟨_, _, _, _, _, _, _, _, _, _, rfl, kp u1, ?_⟩
  have z1 := u1.size
  have soB := oso.blk
  have bN := T.base
  intro b5
  have fin : ∀ b6 st ot sd2 w', Upd [] [] w1 w' → w1.heap.size ≤ b5 → b5 < w'.heap.size → w1.heap.size ≤ b6 → b6 < w'.heap.size → Opts w' st (tcOf e l).opts ot → SeesB w' sd2 (tcOf e l).data →
      tail15 (room.sub 1 0 (Int.toNat (now.len : Int)) room.cap) w' b1 b2 b3 b4 b5 b6 now bk so R e.sv e.sa e.dv e.da J t turns (udOf e l).sp (udOf e l).dp (udOf e l).ns du (udOf e l).sp (udOf e l).dp (udOf e l).ns du2
      (tcOf e l).sp (tcOf e l).dp (tcOf e l).seq (tcOf e l).ack (tcOf e l).fl (tcOf e l).win (tcOf e l).urg (dT e (room.sub 1 0 (Int.toNat (now.len : Int)) room.cap) l) (tcOf e l).sp (tcOf e l).dp (tcOf e l).seq (tcOf e l).ack (tcOf e l).fl (tcOf e l).win (tcOf e l).urg st sd2 (udErr e l) (udErr e l) (tcErr e l) (tcErr e l) bd := by
    intro b6 st ot sd2 w' u' h51 h52 h61 h62 hO2 hD2
    have t1 := u1.then u'
    have z' := u'.size
    refine t15 (e := e) (hg.old t1) (v.then t1) hN (T.old t1) hn hnl hls hK ht hv htl (fun x hx => ?_) (hO.old u') ((oso.old u').mono (by omega)) (fun x hx => ?_) (hDu.old t1) (hDu2.old t1) hO2 (hD.old u') hD2 hJ
    · have old : ∀ y, y ∈ [b1, b2, b3, b4] → y ≠ bd ∧ y ≠ bk ∧ y ∉ now.blk ∧ y ∉ room.blk ∧ y ∉ lotB L gs ∧ y ∉ lotB W hs ∧ y ∉ so.blk ∧ y < w'.heap.size := fun y hy => by
        obtain ⟨q1, q2, q3, q4, q5, q6, q7⟩ := hbs y hy
        exact ⟨q1, q2, q3, q4, q5, q6, fun hm => by have := soB y hm; omega, by omega⟩
      have new : ∀ y, w1.heap.size ≤ y → y < w'.heap.size → y ≠ bd ∧ y ≠ bk ∧ y ∉ now.blk ∧ y ∉ room.blk ∧ y ∉ lotB L gs ∧ y ∉ lotB W hs ∧ y ∉ so.blk ∧ y < w'.heap.size := fun y h1 h2 =>
        ⟨by omega, by omega, fun hm => by have := lnow y hm; omega, fun hm => by have := lroom y hm; omega, fun hm => by have := lA y hm; omega, fun hm => by have := lB y hm; omega, fun hm => by have := soB y hm; omega, h2⟩
      simp only [List.mem_cons, List.not_mem_nil, or_false] at hx
      rcases hx with q | q | q | q | q | q
      · exact old x (by simp [q])
      · exact old x (by simp [q])
      · exact old x (by simp [q])
      · exact old x (by simp [q])
      · exact q ▸ new b5 h51 h52
      · exact q ▸ new b6 h61 h62
    · have := soB x hx
      exact ⟨by omega, by omega, fun hm => by have := lnow x hm; omega, fun hm => by have := lroom x hm; omega, fun hm => by have := lA x hm; omega, fun hm => by have := lB x hm; omega⟩
  refine ⟨fun w2 u2 => ?_, fun b6 => ⟨Upd.refl _, fun w2 u2 => ?_⟩⟩
  · have n5 := u2.new (b := b5) (by simp)
    refine c40 (T.old (u1.then u2)).sees (by omega) fun s3 w3 u3 h3 o3 => ⟨_, rfl, kp u3, u2.then u3, ?_, fun b6 => ⟨u2.then u3, fun w4 u4 => ?_⟩⟩
    · have z3 := u3.size
      refine c45 (e := e) o h3 T.byt o3.le (by omega) fun st ot sd2 w4 u4 hO4 _ _ hD4 _ => ⟨_, _, _, _, _, _, _, _, _, _, rfl, kp u4, fun b6 => ⟨(u2.then u3).then u4, fun w5 u5 => ?_⟩⟩
      have n6 := u5.new (b := b6) (by simp)
      have z4 := u4.size
      exact fin b6 st ot sd2 w5 (((u2.then u3).then u4).then u5) (by omega) (by omega) (by omega) (by omega) (hO4.old u5) (hD4.old u5)
    · have n6 := u4.new (b := b6) (by simp)
      have z3 := u3.size
      have z2 := u2.size
      refine c45 (e := e) o (h3.old u4) T.byt o3.le (by omega) fun st ot sd2 w5 u5 hO5 oO5 oo5 hD5 oD5 => ⟨_, _, _, _, _, _, _, _, _, _, rfl, kp u5, fun w6 u6 => ?_⟩
      have z5 := u5.size; have z6 := u6.size
      have a1 := oO5.blk; have a2 := oD5.blk
      have t25 := ((u2.then u3).then u4).then u5
      exact fin b6 st ot sd2 w6 (t25.step0 u6 (by simp; omega)) (by omega) (by omega) (by omega) (by omega) (hO5.upd u6 (fun x hx hm => by have := a1 x hx; simp at hm; omega) (fun y hy x hx hm => by have := (oo5 y hy).blk x hx; simp at hm; omega)) (hD5.upd u6 (fun x hx hm => by have := a2 x hx; simp at hm; omega))
  · have n5 := u2.new (b := b5) (by simp)
    have n6 := u2.new (b := b6) (by simp)
    refine c40 (T.old (u1.then u2)).sees (by omega) fun s3 w3 u3 h3 o3 => ⟨_, rfl, kp u3, u2.then u3, ?_⟩
    have z3 := u3.size
    refine c45 (e := e) o h3 T.byt o3.le (by omega) fun st ot sd2 w4 u4 hO4 oO4 oo4 hD4 oD4 => ⟨_, _, _, _, _, _, _, _, _, _, rfl, kp u4, fun w5 u5 => ?_⟩
    have z4 := u4.size; have z5 := u5.size
    have a1 := oO4.blk; have a2 := oD4.blk
    exact fin b6 st ot sd2 w5 (((u2.then u3).then u4).step0 u5 (by simp; omega)) (by omega) (by omega) (by omega) (by omega) (hO4.upd u5 (fun x hx hm => by have := a1 x hx; simp at hm; omega) (fun y hy x hx hm => by have := (oo4 y hy).blk x hx; simp at hm; omega)) (hD4.upd u5 (fun x hx hm => by have := a2 x hx; simp at hm; omega))
set_option maxRecDepth 20000 in
theorem c15 {b turns : Sl} {l : List Int} {ts : List (Int × Int)} (hg : Tabs w) (o : e.Ok) (h : SeesB w b l) (hb : Byt l) (hl : l.length ≤ 140737488351232) (ht : Sees cT w turns ts) (hv : ∀ y ∈ ts, -9223372036854775808 ≤ y.1 ∧ y.1 ≤ 9223372036854775807) (htl : ts.length < 9223372036854775000) : Ret Tryd.prog 15 [adr e.sv e.sa, adr e.dv e.da, .slice b, .slice turns] w fun r w1 => r = .bool true ∧ Upd [] [] w w1 := by
  refine f15_of _ _ _ _ _ _ _ _ ?_
  unfold vc15
  have htn := ht.len
  intro b1 b2 w1 u1
  have n1 := u1.new (b := b1) (by simp)
  have n2 := u1.new (b := b2) (by simp)
  refine c18 (hg.old u1) fun w2 u2 => ⟨_, rfl, kp u2, brf rfl ?_⟩
  have v2 := u1.then u2
  refine c40 (h.old v2) (by omega) fun s w3 u3 hs ho => ⟨_, rfl, kp u3, ?_⟩
  have v3 := v2.then u3
  intro bd w4 u4 hr4 _
  have v4 := v3.then u4
  have n4 := u4.new (b := bd) (by simp)
  have hx4 : Bx w4 bd [.sl ⟨none, 0, 0⟩, .int 0] := Bx.mk' hr4 rfl
  have hsl := hs.len
  have y1 := u1.size; have y2 := u2.size; have y3 := u3.size; have y4 := u4.size
  have sB := ho.blk
  refine c43 (N := w4.heap.size) (room := ⟨none, 0, 0⟩) (L := []) hx4 (Sees.nil _ _ _ _) (Own.none _ _ _) (by simp [Sl.blk]) (by simp) (Nat.le_refl _) (hs.old u4) hl (fun x hx => by have := sB x hx; exact ⟨by omega, by simp [Sl.blk], by omega⟩) fun room K w5 ms5 u5 hms5 hd5 hK5 => ?_
  have hms : ∀ x ∈ ms5, x = bd := fun x hx => by
    rcases hms5 x hx with q | q
    · exact q
    · simp [Sl.blk] at q
  refine ⟨_, rfl, kpm u5 (by simp; omega) (fun x hx hm => by have := hms x hm; simp at hx; omega), ?_⟩
  have v5 := v4.step0 u5 (fun x hx => by have := hms x hx; omega)
  have hs5 := (hs.old u4).upd u5 (fun x hx hm => by have := sB x hx; have := hms x hm; omega)
  have ho5 := (ho.old u4).upd u5 (fun x hx hm => by have := sB x hx; have := hms x hm; omega)
  have rB := hd5.own.blk
  have hd5' : Dsk w1.heap.size w5 bd l K room := ⟨hd5.box, hd5.sees, hd5.le, hd5.own.mono (by omega), hd5.off⟩
  intro bk w6 u6 hr6 _
  have n6 := u6.new (b := bk) (by simp)
  have y5 := u5.size; have y6 := u6.size
  have hk6 : Bx w6 bk [.sl ⟨none, 0, 0⟩, .sl ⟨none, 0, 0⟩] := Bx.mk' hr6 rfl
  have v6 := v5.then u6
  have T6 : Turn w1.heap.size w6 bd bk s room l K l.length ⟨none, 0, 0⟩ ⟨none, 0, 0⟩ [] [] [] := ⟨hs5.old u6, (ho5.old u6).mono (by omega), hb, rfl, hd5'.old u6, ⟨hk6, LotC.nil _ _ _, LotC.nil _ _ _, by simp [lotB, Sl.blk], by simp [lotB, Sl.blk], by simp [lotB, Sl.blk]⟩, by simp, ⟨by omega, by omega, by omega⟩, by omega, fun x hx => by have := sB x hx; refine ⟨by omega, by omega, fun hm => ?_, by simp [lotB, Sl.blk], by simp [lotB, Sl.blk]⟩; have := rB x hm; omega, fun x hx => by have := rB x hx; exact ⟨by omega, by simp [lotB, Sl.blk], by simp [lotB, Sl.blk]⟩, by simp [lotB, Sl.blk]⟩
  refine ⟨fun i w' => Upd [] [] w w' ∧ ∃ (l' : List Int) (L W : Sl) (ls : List (List (Int × Sl))) (gs hs : List Sl) (t : Nat), Turn w1.heap.size w' bd bk s room l' K l.length L W ls gs hs ∧ i = t ∧ t ≤ 40 ∧ t ≤ ts.length + 1 ∧ ls.length = 2 * t, fun i _ => (40 - i).toNat, ⟨v6, l, _, _, [], [], [], 0, T6, rfl, by omega, by omega, rfl⟩, ?_⟩
  rintro i w7 ⟨v7, l7, L, W, ls, gs, hs', t, T, rfl, ht40, htt, hls⟩
  intro J hJ
  have bN := T.base
  have lA := T.lists.A.lt
  have lB := T.lists.B.lt
  have lnow := T.own.blk
  have lroom := T.desk.own.blk
  have tlen := T.len
  have fin : Ret Tryd.prog 52 [.ptr (some ⟨bk, 0, none⟩)] w7 fun r w1 => ∃ (b : Bool), r = SV.bool b ∧ Keeps [b1, b2] w7 w1 ∧ (SV.bool b = .bool true ∧ Upd [] [] w w1) :=
    c52T T.lists (by omega) (fun x hx => by have := T.few x hx; omega) T.base.2.2 fun w8 ms u8 hms8 => ⟨_, rfl, kpm u8 (by simp; omega) (fun x hx hm => by have := (lA x (hms8 x hm)).1; simp at hx; omega), rfl, v7.step0 u8 (fun x hx => by have := (lA x (hms8 x hx)).1; omega)⟩
  refine brd (fun hle => brd (fun h40 => ?_) (fun _ => fin)) (fun _ => fin)
  (repeat refine And.intro rfl ?_)
  refine hJ _ ?_
  clear hJ fin
  intro J2 hJ2
  have old : ∀ x, x = b1 ∨ x = b2 → ∀ w', Upd [] [] w7 w' → x ≠ bd ∧ x ≠ bk ∧ x ∉ s.blk ∧ x ∉ room.blk ∧ x ∉ lotB L gs ∧ x ∉ lotB W hs' ∧ x < w'.heap.size := fun x hx w' u' => by
    have := u'.size
    have hx' : x < w1.heap.size := by omega
    exact ⟨by omega, by omega, fun hm => by have := lnow x hm; omega, fun hm => by have := lroom x hm; omega, fun hm => by have := lA x hm; omega, fun hm => by have := lB x hm; omega, by omega⟩
  have ldk := T.desk.box.lt
  have lbk := T.lists.box.lt
  have new : ∀ (x : Nat) (w' : World), w7.heap.size ≤ x → x < w'.heap.size → x ≠ bd ∧ x ≠ bk ∧ x ∉ s.blk ∧ x ∉ room.blk ∧ x ∉ lotB L gs ∧ x ∉ lotB W hs' ∧ x < w'.heap.size := fun x w' h1 h2 =>
    ⟨by omega, by omega, fun hm => by have := lnow x hm; omega, fun hm => by have := lroom x hm; omega, fun hm => by have := lA x hm; omega, fun hm => by have := lB x hm; omega, h2⟩
  have dl := T.desk.len
  have dle := T.desk.le
  have dcap := T.desk.own.le
  have eN : Int.toNat (s.len : Int) = l.length := by omega
  have bufS : ∀ w', Upd [] [] w7 w' → SeesB w' (room.sub 1 0 (Int.toNat (s.len : Int)) room.cap) l7 := fun w' u' => (T.desk.old u').lent (by omega)
  have bufC : (room.sub 1 0 (Int.toNat (s.len : Int)) room.cap).len ≤ (room.sub 1 0 (Int.toNat (s.len : Int)) room.cap).cap := by simp [Sl.sub]; omega
  have mid : ∀ b3 b4 d w', Upd [] [] w7 w' → w7.heap.size ≤ b3 → b3 < w'.heap.size → w7.heap.size ≤ b4 → b4 < w'.heap.size → SeesB w' d (udOf e l7).data →
      mid15 e.sv e.sa e.dv e.da (room.sub 1 0 (Int.toNat (s.len : Int)) room.cap) w' b1 b2 b3 b4 s bk (fun r w1 => r = .bool true ∧ Upd [] [] w w1) J2 t turns (udOf e l7).sp (udOf e l7).dp (udOf e l7).ns (dU e (room.sub 1 0 (Int.toNat (s.len : Int)) room.cap) l7) (udOf e l7).sp (udOf e l7).dp (udOf e l7).ns d (udErr e l7) (udErr e l7) bd := by
    intro b3 b4 d w' u' h31 h32 h41 h42 hd
    refine m15 (w0 := w) (N := w1.heap.size) o (hg.old (v7.then u')) (v7.then u') (by omega) (T.old u') (by omega) (by omega) (by omega) hK5 ht hv htl (fun x hx => ?_) (dU_sees (bufS _ u')) hd fun l' L' W' ls' gs' hs2 w2 v2 T2 e2 => ?_
    · simp only [List.mem_cons, List.not_mem_nil, or_false] at hx
      rcases hx with q | q | q | q
      · exact old x (.inl q) w' u'
      · exact old x (.inr q) w' u'
      · exact q ▸ new b3 w' h31 h32
      · exact q ▸ new b4 w' h41 h42
    · refine hJ2 _ ?_
      (repeat refine And.intro rfl ?_)
      exact ⟨⟨v2, l', L', W', ls', gs', hs2, t + 1, T2, wr_succ (by omega), by omega, by omega, by omega⟩, by rw [wr_succ (q := t) (by omega)]; (try dsimp only); omega⟩
  refine c21 (e := e) (hg.old v7) o (bufS _ (Upd.refl _)) T.byt bufC (by omega) fun w8 u8 => ⟨_, _, _, _, _, rfl, kp u8, ?_⟩
  have z8 := u8.size
  intro b3
  refine ⟨fun w9 u9 => ?_, fun b4 => ⟨Upd.refl _, fun w9 u9 => ?_⟩⟩
  · have n3 := u9.new (b := b3) (by simp)
    have z9 := u9.size
    refine c40 (T.old (u8.then u9)).sees (by omega) fun s3 w10 u10 h3 o3 => ⟨_, rfl, kp u10, u9.then u10, ?_, fun b4 => ⟨u9.then u10, fun w11 u11 => ?_⟩⟩
    · have z10 := u10.size
      refine c44 (e := e) o h3 T.byt o3.le (by omega) fun d w11 u11 hd od => ⟨_, _, _, _, _, rfl, kp u11, fun b4 => ⟨(u9.then u10).then u11, fun w12 u12 => ?_⟩⟩
      have n4 := u12.new (b := b4) (by simp)
      have z11 := u11.size
      exact mid b3 b4 d w12 ((((u8.then u9).then u10).then u11).then u12) (by omega) (by omega) (by omega) (by omega) (hd.old u12)
    · have n4 := u11.new (b := b4) (by simp)
      have z10 := u10.size
      refine c44 (e := e) o (h3.old u11) T.byt o3.le (by omega) fun d w12 u12 hd od => ⟨_, _, _, _, _, rfl, kp u12, fun w13 u13 => ?_⟩
      have z12 := u12.size; have z13 := u13.size
      have a1 := od.blk
      exact mid b3 b4 d w13 (((((u8.then u9).then u10).then u11).then u12).step0 u13 (by simp; omega)) (by omega) (by omega) (by omega) (by omega) (hd.upd u13 (fun x hx hm => by have := a1 x hx; simp at hm; omega))
  · have n3 := u9.new (b := b3) (by simp)
    have n4 := u9.new (b := b4) (by simp)
    refine c40 (T.old (u8.then u9)).sees (by omega) fun s3 w10 u10 h3 o3 => ⟨_, rfl, kp u10, u9.then u10, ?_⟩
    have z10 := u10.size
    refine c44 (e := e) o h3 T.byt o3.le (by omega) fun d w11 u11 hd od => ⟨_, _, _, _, _, rfl, kp u11, fun w12 u12 => ?_⟩
    have z11 := u11.size; have z12 := u12.size
    have a1 := od.blk
    exact mid b3 b4 d w12 ((((u8.then u9).then u10).then u11).step0 u12 (by simp; omega)) (by omega) (by omega) (by omega) (by omega) (hd.upd u12 (fun x hx hm => by have := a1 x hx; simp at hm; omega))
end
section
variable {H : Type} {W : World}
theorem und73 : Tryd.prog.underlying 73 = some (.slice 91) := by kernel_rfl
theorem bytes91 : Tryd.prog.bytesOf 91 = 16 := by kernel_rfl
theorem deep_turn {w : World} (m : Nat) (x : SV) (d : DataW H) (h : Deep X w m (X.T 91) x d) : ∃ a : Int × Int, x.cells = cT.enc a ∧ (-9223372036854775808 ≤ a.1 ∧ a.1 ≤ 9223372036854775807) := by
  have h := (show Deep X w m (.arr .i64 2) x d from h)
  cases m with
  | zero => exact h.elim
  | succ m =>
    simp only [Deep] at h
    obtain ⟨f, l, h1, h2, h3, h4⟩ := h
    exact ⟨(f 0, f 1), by rw [h1]; rfl, wf_i64 (h4 0 (by omega)).2⟩
theorem walk15 (hg : Tabs W) (svs : List SV) (ds : List (DataW H)) (h : ArgsD X W [27, 27, 28, 73] svs ds) (hw : (DataW.weightsEach Tryd.prog [27, 27, 28, 73] ds).all (· ≤ reachBytes) = true) :
    Ret Tryd.prog 15 svs W fun r w1 => r = .bool true ∧ Upd [] [] W w1 := by
  obtain ⟨x, _, d1, _, m1, rfl, rfl, h1, h⟩ := argsD_cons h
  obtain ⟨y, _, d2, _, m2, rfl, rfl, h2, h⟩ := argsD_cons h
  obtain ⟨z, _, d3, _, m3, rfl, rfl, h3, h⟩ := argsD_cons h
  obtain ⟨z', _, d4, _, m4, rfl, rfl, h4, h⟩ := argsD_cons h
  obtain ⟨rfl, rfl⟩ := argsD_nil h
  obtain ⟨sv, sa, rfl, hsa⟩ := deep_adr h1
  obtain ⟨dv, da, rfl, hda⟩ := deep_adr h2
  obtain ⟨s, l, rfl, hs, hb, hc, hsl⟩ := deep_bytes' (t := 28) (e := 5) rfl rfl h3
  have hk := light_len (P := Tryd.prog) (t := 28) (e := 5) (by kernel_rfl) (by kernel_rfl) (light_head (light_head (light_head (light_arg hw)).2).2).1 hsl
  obtain ⟨s2, ts, rfl, hts, htv, _, hd⟩ := dp_slice (X := X) (c := cT) (e := 91) (P := fun a => -9223372036854775808 ≤ a.1 ∧ a.1 ≤ 9223372036854775807) rfl deep_turn (show Deep X W m4 (.slice 91) z' d4 from h4)
  refine c15 (e := ⟨sv, sa, dv, da⟩) hg ⟨hsa, hda⟩ hs hb (by omega) hts htv ?_
  rcases hd with ⟨_, rfl⟩ | ⟨els, sp, rfl, he⟩
  · simp
  · have := (light_slice und73 bytes91 (light_head (light_head (light_head (light_head (light_arg hw)).2).2).2).1).1
    omega
end
end Go.Vc.S9
