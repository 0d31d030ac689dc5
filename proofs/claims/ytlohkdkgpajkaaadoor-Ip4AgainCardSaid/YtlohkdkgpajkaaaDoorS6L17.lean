import Derived.Test.YtlohkdkgpajkaaaDoorS6Again
open Go Go.Vc Go.Proofs Go.ChangeShapes Go.WideShapes Go.ChangeAt Go.RowKit
set_option linter.unusedVariables false
set_option linter.unusedSimpArgs false
set_option autoImplicit false
namespace Go.Vc.S6
variable {w : World}
set_option maxRecDepth 20000 in
theorem c17 {b turns : Sl} {l : List Int} {ts : List (Int × Int)} (hg : Sees cI64 w wid4 widths4) (h : SeesB w b l) (hb : Byt l) (hl : l.length ≤ 140737488351232) (ht : Sees cT w turns ts) (hv : ∀ y ∈ ts, -9223372036854775808 ≤ y.1 ∧ y.1 ≤ 9223372036854775807) (htl : ts.length < 9223372036854775000) : Ret Tryd.prog 17 [.slice b, .slice turns] w fun r w1 => r = .bool true ∧ Upd [] [] w w1 := by
  refine f17_of _ _ _ _ ?_
  unfold vc17
  have htn := ht.len
  refine c18 hg fun w1 u1 => ⟨_, rfl, brf rfl ?_⟩
  refine c23 (h.old u1) (by omega) fun s w2 u2 hs ho => ⟨_, rfl, ?_⟩
  have v2 := u1.then u2
  intro bd w3 u3 hr3
  have v3 := v2.then u3
  have n3 := u3.new (b := bd) (by simp)
  have hx3 : Bx w3 bd [.sl ⟨none, 0, 0⟩, .int 0] := Bx.mk' hr3 rfl
  have hsl := hs.len
  have y1 := u1.size; have y2 := u2.size; have y3 := u3.size
  have sB := ho.blk
  refine c31 (N := w3.heap.size) (room := ⟨none, 0, 0⟩) (L := []) hx3 (Sees.nil _ _ _ _) (Own.none _ _ _) (by simp [Sl.blk]) (by simp) (Nat.le_refl _) (hs.old u3) hl (fun x hx => by have := sB x hx; exact ⟨by omega, by simp [Sl.blk], by omega⟩) fun room K w4 ms4 u4 hms4 hd4 hK4 => ⟨_, rfl, ?_⟩
  have hms : ∀ x ∈ ms4, x = bd := fun x hx => by
    rcases hms4 x hx with q | q
    · exact q
    · simp [Sl.blk] at q
  have v4 := v3.step0 u4 (fun x hx => by have := hms x hx; omega)
  have hs4 := (hs.old u3).upd u4 (fun x hx hm => by have := sB x hx; have := hms x hm; omega)
  have ho4 := (ho.old u3).upd u4 (fun x hx hm => by have := sB x hx; have := hms x hm; omega)
  have rB := hd4.own.blk
  have hd4' : Dsk w.heap.size w4 bd l K room := ⟨hd4.box, hd4.sees, hd4.le, hd4.own.mono (by omega), hd4.off⟩
  intro bk w5 u5 hr5
  have n5 := u5.new (b := bk) (by simp)
  have y4 := u4.size; have y5 := u5.size
  have hk5 : Bx w5 bk [.sl ⟨none, 0, 0⟩, .sl ⟨none, 0, 0⟩] := Bx.mk' hr5 rfl
  have v5 := v4.then u5
  have T5 : Turn w.heap.size w5 bd bk s room l K l.length ⟨none, 0, 0⟩ ⟨none, 0, 0⟩ [] [] [] := ⟨hs4.old u5, (ho4.old u5).mono (by omega), hb, rfl, hd4'.old u5, ⟨hk5, LotC.nil _ _ _, LotC.nil _ _ _, by simp [lotB, Sl.blk], by simp [lotB, Sl.blk], by simp [lotB, Sl.blk]⟩, by simp, ⟨by omega, by omega, by omega⟩, by omega, fun x hx => by have := sB x hx; refine ⟨by omega, by omega, fun hm => ?_, by simp [lotB, Sl.blk], by simp [lotB, Sl.blk]⟩; have := rB x hm; omega, fun x hx => by have := rB x hx; exact ⟨by omega, by simp [lotB, Sl.blk], by simp [lotB, Sl.blk]⟩, by simp [lotB, Sl.blk]⟩
  refine ⟨fun now i w' => Upd [] [] w w' ∧ ∃ (l' : List Int) (L W : Sl) (ls : List (List (Int × Sl))) (gs hs : List Sl) (t : Nat), Turn w.heap.size w' bd bk now room l' K l.length L W ls gs hs ∧ i = t ∧ t ≤ 40 ∧ t ≤ ts.length + 1 ∧ ls.length = 2 * t, fun _ i _ => (40 - i).toNat, ⟨v5, l, _, _, [], [], [], 0, T5, rfl, by omega, by omega, rfl⟩, ?_⟩
  rintro now i w6 ⟨v6, l6, L, W, ls, gs, hs', t, T, rfl, ht40, htt, hls⟩
  intro J hJ
  have fin : Ret Tryd.prog 56 [.ptr (some ⟨bk, 0, none⟩)] w6 fun r w1 => ∃ (b : Bool), r = SV.bool b ∧ (SV.bool b = .bool true ∧ Upd [] [] w w1) :=
    c56T T.lists (by omega) (fun x hx => by have := T.few x hx; omega) T.base.2.2 fun w7 ms u7 hms7 => ⟨_, rfl, rfl, v6.step0 u7 (fun x hx => (T.lists.A.lt x (hms7 x hx)).1)⟩
  refine brd (fun hle => brd (fun h40 => ?_) (fun _ => fin)) (fun _ => fin)
  (repeat refine And.intro rfl ?_)
  refine hJ _ ?_
  clear hJ fin
  intro J2 hJ2
  have eN : Int.toNat (s.len : Int) = l.length := by omega
  have dl := T.desk.len
  have dle := T.desk.le
  have dcap := T.desk.own.le
  have tlen := T.len
  have bufS : ∀ w', Upd [] [] w6 w' → SeesB w' (room.sub 1 0 (Int.toNat (s.len : Int)) room.cap) l6 := fun w' u' => (T.desk.old u').lent (by omega)
  have bufC : (room.sub 1 0 (Int.toNat (s.len : Int)) room.cap).len ≤ (room.sub 1 0 (Int.toNat (s.len : Int)) room.cap).cap := by simp [Sl.sub]; omega
  have nowC := T.own.le
  refine c20' (hg.old v6) (bufS _ (Upd.refl _)) T.byt bufC (by omega) fun v so os d w7 hv7 hf7 u7 hO7 hD7 h40' hod7 _ hso7 _ _ eos => ⟨_, _, _, _, _, _, _, _, _, _, _, _, _, _, rfl, ?_⟩
  intro b8 w8 u8
  have t68 := u7.then u8
  have T8 := T.old t68
  refine c23 T8.sees (by omega) fun s9 w9 u9 h9 o9 => ⟨_, rfl, kp u9, ?_⟩
  refine c47 h9 T.byt o9.le (by omega) fun vr sr osr dr w10 hvr u10 hOr _ _ hDr _ => ⟨_, _, _, _, _, _, _, _, _, _, _, _, _, _, rfl, kp u10, ?_⟩
  intro b11 J3 hJ3 w11 u11
  have t811 := (u9.then u10).then u11
  have t611 := t68.then t811
  refine c21 ⟨_, rfl, kp (Upd.refl _), brf (by simp) ?_⟩
  have t711 := u8.forget.then t811
  refine c29T (hv7.trans hvr.symm) (hO7.old t711) (by rw [hvr.opts]; exact hOr.old u11) hf7.opts (by omega) (hD7.old t711) (by rw [hvr.data]; exact hDr.old u11) hf7.data fun w12 u12 => ⟨_, rfl, kp u12, brf rfl ?_⟩
  have t612 := t611.then u12
  refine c43 (hg.old (v6.then t612)) (bufS _ t612) T.byt bufC (by omega) fun w13 u13 => ⟨_, rfl, kp u13, ?_⟩
  have t613 := t612.then u13
  refine c48 (T.old t613).sees T.byt nowC (by omega) fun w14 u14 => ⟨_, rfl, kp u14, brf (by simp) ?_⟩
  have t614 := t613.then u14
  (repeat refine And.intro rfl ?_)
  refine hJ3 _ ?_
  clear hJ3
  refine c49' (bufS _ t614) T.byt bufC (by omega) fun s15 os15 w15 u15 hO15 o15 => ⟨_, _, rfl, kp u15, ?_⟩
  have t615 := t614.then u15
  refine c23 (T.old t615).sees (by omega) fun s16 w16 u16 h16 o16 => ⟨_, rfl, kp u16, ?_⟩
  refine c50' h16 T.byt o16.le (by omega) fun s17 os17 w17 u17 hO17 o17 => ⟨_, _, rfl, kp u17, ?_⟩
  have t617 := (t615.then u16).then u17
  intro J4 hJ4
  have hfw := optL_few T.byt
  refine c21 ⟨_, rfl, kp (Upd.refl _), brf (by simp) (c51 (hO15.old (u16.then u17)) hO17 hfw.2 hfw.2 (by omega) fun w18 u18 => ⟨_, rfl, kp u18, brf (by simp) ?_⟩)⟩
  have t618 := t617.then u18
  refine c37T (T.old t618).desk (T.old t618).sees T.byt hK4 fun w19 u19 => ⟨_, rfl, kp u19, brf rfl ?_⟩
  have t619 := t618.then u19
  (repeat refine And.intro rfl ?_)
  refine hJ4 _ ?_
  clear hJ4
  have lA := T.lists.A.lt
  have lB := T.lists.B.lt
  have ldk := T.desk.box.lt
  have lbk := T.lists.box.lt
  have lnow := T.own.blk
  have lroom := T.desk.own.blk
  have z7 := u7.size; have z8 := u8.size; have n8 := u8.new (b := b8) (by simp); have n11 := u11.new (b := b11) (by simp)
  have z811 := t811.size; have z9 := u9.size; have z10 := u10.size; have z11 := u11.size; have z12 := u12.size; have z13 := u13.size; have z14 := u14.size; have z15 := u15.size; have z16 := u16.size; have z17 := u17.size; have z18 := u18.size; have z19 := u19.size
  have soB := hso7.blk
  have s15B := o15.blk
  have t719 := ((((((t711.then u12).then u13).then u14).then u15).then u16).then u17).then u18 |>.then u19
  have t1519 := ((u16.then u17).then u18).then u19
  have bN := T.base
  have hosl := hO7.len
  have ho15l := hO15.len
  refine (T.old t619).keep (hO7.old t719).row ((hso7.old t719).mono (by omega)) (by omega) (by omega) (fun x hx => by
    have := soB x hx
    refine ⟨by omega, by omega, fun hm => ?_, fun hm => ?_, fun hm => ?_, fun hm => ?_⟩
    · have := lnow x hm; omega
    · have := lroom x hm; omega
    · have := lA x hm; omega
    · have := lB x hm; omega) fun L1 W1 c1 w20 ms u20 hmN hms20 T20 new20 => ⟨rfl, kpm u20 (by intro x hx; simp at hx; omega) (fun x hx hm => by
      have aL := fun q => lA x (lotB_mem.2 (.inl q))
      have aW := fun q => lB x (lotB_mem.2 (.inl q))
      simp at hx
      rcases hms20 x hm with q | q | q
      · omega
      · have := aL q; omega
      · have := aW q; omega), ?_⟩
  have z20 := u20.size
  have msold : ∀ x ∈ ms, x < w6.heap.size := fun x hm => by
    rcases hms20 x hm with q | q | q
    · omega
    · have := lA x (lotB_mem.2 (.inl q)); omega
    · have := lB x (lotB_mem.2 (.inl q)); omega
  have hs15row := (hO15.old t1519).row.upd u20 (fun x hx hm => by have := s15B x hx; have := msold x hm; omega)
  have hs15own := (o15.old t1519).upd u20 (fun x hx hm => by have := s15B x hx; have := msold x hm; omega)
  have v20 := (v6.then t619).step0 u20 hmN
  refine T20.keep hs15row (hs15own.mono (by omega)) (by omega) (by simp; omega) (fun x hx => by
    have hb := s15B x hx
    refine ⟨by omega, by omega, fun hm => ?_, fun hm => ?_, fun hm => ?_, fun hm => ?_⟩
    · have := lnow x hm; omega
    · have := lroom x hm; omega
    · rcases new20 x (by omega) (.inl hm) with q | q | q
      · have := lA x q; omega
      · have := lB x q; omega
      · have := soB x q; omega
    · rcases new20 x (by omega) (.inr hm) with q | q | q
      · have := lA x q; omega
      · have := lB x q; omega
      · have := soB x q; omega) fun L2 W2 c2 w21 ms21 u21 hmN21 hms21 T21 new21 => ⟨rfl, ?_, ?_⟩
  · refine kpm u21 (by intro x hx; simp at hx; omega) (fun x hx hm => ?_)
    have hx2 : w7.heap.size ≤ x ∧ x < w19.heap.size := by simp at hx; omega
    have bad : x ∈ lotB L1 (gs ++ [so]) ∨ x ∈ lotB W1 (hs' ++ [c1]) → False := fun hq => by
      rcases new20 x hx2.2 hq with q | q | q
      · have := lA x q; omega
      · have := lB x q; omega
      · have := soB x q; omega
    rcases hms21 x hm with q | q | q
    · omega
    · exact bad (.inl (lotB_mem.2 (.inl q)))
    · exact bad (.inr (lotB_mem.2 (.inl q)))
  have v21 := v20.step0 u21 hmN21
  intro J5 hJ5
  have htl2 : t ≤ ts.length := by omega
  have body5 : ∀ (now5 : Sl) (l5 : List Int) (w22 : World), Upd [] [] w w22 → Turn w.heap.size w22 bd bk now5 room l5 K l.length L2 W2 (ls ++ [os] ++ [os15]) (gs ++ [so] ++ [s15]) (hs' ++ [c1] ++ [c2]) → (∀ x ∈ now5.blk, x ≠ b8 ∧ x ≠ b11) → J5 now5 w22 := by
    intro now5 l5 w22 v22 T22 hnb
    refine hJ5 _ _ ?_
    (repeat refine And.intro rfl ?_)
    intro J6 hJ6
    have fin6 : ∀ (l6' : List Int) (w23 : World), Upd [] [] w w23 → Turn w.heap.size w23 bd bk now5 room l6' K l.length L2 W2 (ls ++ [os] ++ [os15]) (gs ++ [so] ++ [s15]) (hs' ++ [c1] ++ [c2]) → J6 w23 := by
      intro l6' w23 v23 T23
      refine hJ6 _ ?_
      (repeat refine And.intro rfl ?_)
      refine c55T T23.lists (by simp; omega) (fun x hx => by have := T23.few x hx; omega) fun w24 u24 => ⟨_, rfl, kp u24, brf rfl ?_⟩
      (repeat refine And.intro rfl ?_)
      refine hJ2 _ _ ?_
      (repeat refine And.intro rfl ?_)
      exact ⟨⟨v23.then u24, l6', L2, W2, _, _, _, t + 1, T23.old u24, wr_succ (by omega), by omega, by omega, by simp; omega⟩, by rw [wr_succ (q := t) (by omega)]; (try dsimp only); omega⟩
    refine brd (fun hlt => brd (fun hpos => ?_) (fun _ => ?_)) (fun _ => ?_)
    · have ht2 : t < ts.length := by omega
      have hbl : (room.sub 1 0 (Int.toNat (s.len : Int)) room.cap).len = l.length := by simp [Sl.sub]; omega
      have tC : ∀ w', Upd [] [] w w' → w'.cell? ((turns.at 2 (Int.toNat (t : Int))).add 0) = some (.int .i64 ts[t].1) ∧ w'.cell? ((turns.at 2 (Int.toNat (t : Int))).add 1) = some (.int .i64 ts[t].2) := fun w' u' => by
        rw [Int.toNat_natCast]
        have g := ht.old u'
        exact ⟨g.elem ht2 0 (by simp [cT]), g.elem ht2 1 (by simp [cT])⟩
      have tS := ht.isSome (by decide) (by omega)
      have tix : ∀ X : Prop, X → Need (decide (0 ≤ (t : Int)) && decide ((t : Int) < (turns.len : Int)) && turns.ptr.isSome) X := fun X x => needIx (by omega) (by omega) tS x
      refine tix _ ⟨_, (tC _ v22).1, ?_⟩
      have l5l := T22.len
      have dl5 := T22.desk.len
      have dle5 := T22.desk.le
      have cap5 := T22.desk.own.le
      have rb5 := T22.desk.own.blk
      have roomb5 : ∀ x ∈ room.blk, x ∉ [b8, b11] := fun x hx hm => by have := lroom x hx; simp at hm; omega
      have nowb5 : ∀ x ∈ now5.blk, x ∉ [b8, b11] := fun x hx hm => by have := hnb x hx; simp at hm; omega
      refine c54 (n := (room.sub 1 0 (Int.toNat (s.len : Int)) room.cap).len) (by omega) (by omega) (hv _ (List.getElem_mem ht2)) fun p hp => ⟨_, rfl, kp (Upd.refl _), tix _ ⟨_, (tC _ v22).2, ?_⟩⟩
      have hp2 : p < Int.toNat (s.len : Int) := by omega
      have hwin : Win room (room.sub 1 0 (Int.toNat (s.len : Int)) room.cap) 0 (Int.toNat (s.len : Int)) := Win.whole0 (by omega) (by omega) (T22.desk.sees.isSome (by decide) (by simp; omega))
      refine hwin.ix T22.desk.sees hp2 (hwin.store T22.desk.sees T22.desk.own hp2 roomb5 fun w23 hs23 ho23 u23 => ?_)
      have v23 := v22.step0 u23 (fun x hx => (rb5 x hx).1)
      refine tix _ ⟨_, (tC _ v23).2, ?_⟩
      have now23 := T22.sees.upd u23 (fun x hx hm => (T22.a2 x hx).2.2.1 hm)
      have own23 := T22.own.upd u23 (fun x hx hm => (T22.a2 x hx).2.2.1 hm)
      refine needB now23 (by omega) (by omega) ?_
      rw [Int.toNat_natCast]
      refine own_set (c := cU8) (x := wr .u8 ts[t].2) now23 own23 (by decide) (by omega) rfl nowb5 fun w24 h24 o24 u24 => ?_
      (repeat refine And.intro rfl ?_)
      have nb5 := T22.own.blk
      have v24 := v23.step0 u24 (fun x hx => (nb5 x hx).1)
      rw [Nat.zero_add, List.set_append_left _ _ (by omega)] at hs23
      have e5 : l5.length = (l5.set p (wr .u8 ts[t].2)).length := by simp
      have hb23 := (T22.desk.box.upd u23 T22.desk.off).upd u24 (fun hm => (T22.a2 bd hm).1 rfl)
      have hs24 := hs23.upd u24 (fun x hx hm => (T22.a2 x hm).2.2.1 hx)
      have ho24 := ho23.upd u24 (fun x hx hm => (T22.a2 x hm).2.2.1 hx)
      rw [e5] at hb23 hs24
      have z23 := u23.size; have z24 := u24.size
      have hl24 : Lsts w.heap.size w24 bk L2 W2 (ls ++ [os] ++ [os15]) (gs ++ [so] ++ [s15]) (hs' ++ [c1] ++ [c2]) := ⟨(T22.lists.box.upd u23 (fun hm => (T22.a3 bk hm).1 rfl)).upd u24 (fun hm => (T22.a2 bk hm).2.1 rfl), (T22.lists.A.upd u23 (fun x hx hm => (T22.a3 x hm).2.1 hx)).upd u24 (fun x hx hm => (T22.a2 x hm).2.2.2.1 hx), (T22.lists.B.upd u23 (fun x hx hm => (T22.a3 x hm).2.2 hx)).upd u24 (fun x hx hm => (T22.a2 x hm).2.2.2.2 hx), T22.lists.apart, T22.lists.offA, T22.lists.offB⟩
      have bN22 := T22.base
      exact fin6 (l5.set p (wr .u8 ts[t].2)) w24 v24 ⟨h24, o24, T22.byt.set _ (by rw [wr_u8]; omega), by rw [← e5]; exact l5l, ⟨hb23, hs24, by omega, ho24, T22.desk.off⟩, hl24, T22.few, ⟨by omega, by omega, by omega⟩, T22.a1, T22.a2, T22.a3, T22.a4⟩
    · (repeat refine And.intro rfl ?_)
      exact fin6 _ _ v22 T22
    · (repeat refine And.intro rfl ?_)
      exact fin6 _ _ v22 T22
  have nowb : ∀ x ∈ now.blk, x ≠ b8 ∧ x ≠ b11 := fun x hx => by have := lnow x hx; omega
  have roomb : ∀ x ∈ room.blk, x ≠ b8 ∧ x ≠ b11 := fun x hx => by have := lroom x hx; omega
  have z21 := u21.size
  refine bre (fun hodd => ?_) (fun _ => ?_)
  · rw [show Int.toNat (s.len : Int) = l6.length by omega]
    refine c46 (z := (dmks K).drop l6.length) (hg.old v21) T21.desk.sees T21.desk.own T21.byt (by omega) fun w22 u22 hs22 ho22 _ => ⟨_, rfl, kpm u22 (by intro x hx; simp at hx; omega) (fun x hx hm => by have := roomb x hm; simp at hx; omega), ?_⟩
    obtain ⟨hob, hol⟩ := hopL_ok T21.byt
    have v22 := v21.step0 u22 (fun x hx => (T21.desk.own.blk x hx).1)
    have z22 := u22.size
    have hl22 : Lsts w.heap.size w22 bk L2 W2 (ls ++ [os] ++ [os15]) (gs ++ [so] ++ [s15]) (hs' ++ [c1] ++ [c2]) := ⟨T21.lists.box.upd u22 (fun hm => (T21.a3 bk hm).1 rfl), T21.lists.A.upd u22 (fun x hx hm => (T21.a3 x hm).2.1 hx), T21.lists.B.upd u22 (fun x hx hm => (T21.a3 x hm).2.2 hx), T21.lists.apart, T21.lists.offA, T21.lists.offB⟩
    have hb22 := T21.desk.box.upd u22 T21.desk.off
    rw [← hol] at hs22 hb22
    have hd22 : Dsk w.heap.size w22 bd (hopL l6) K room := ⟨hb22, hs22, by have := T21.desk.le; omega, ho22, T21.desk.off⟩
    have now22 := T21.sees.upd u22 (fun x hx hm => (T21.a2 x hx).2.2.1 hm)
    refine c23 now22 (by omega) fun s23 w23 u23 h23 o23 => ⟨_, rfl, kp u23, ?_⟩
    refine c53 h23 T21.byt o23.le (by omega) fun s24 w24 u24 h24 _ => ⟨_, _, rfl, kp u24, ?_⟩
    refine c23 h24 (by omega) fun s25 w25 u25 h25 o25 => ⟨_, rfl, kp u25, ?_⟩
    have t25 := (u23.then u24).then u25
    have z23 := u23.size; have z24 := u24.size
    have hd25 := hd22.old t25
    refine c21 ⟨_, rfl, kp (Upd.refl _), brf (by simp) (c37T hd25 h25 hob hK4 fun w26 u26 => ⟨_, rfl, kp u26, brf rfl ?_⟩)⟩
    (repeat refine And.intro rfl ?_)
    have t26 := t25.then u26
    have z26 := t26.size
    have z24' := (u23.then u24).size
    have s25B := o25.blk
    have q1 := T21.lists.A.lt
    have q2 := T21.lists.B.lt
    have q3 := T21.desk.own.blk
    have q4 := T21.desk.box.lt
    have q5 := T21.lists.box.lt
    refine body5 s25 (hopL l6) w26 (v22.then t26) ⟨h25.old u26, (o25.old u26).mono (by omega), hob, by omega, hd22.old t26, hl22.old (n := 0) t26, T21.few, ⟨by omega, by omega, by omega⟩, T21.a1, fun x hx => ?_, T21.a3, T21.a4⟩ (fun x hx => by have := s25B x hx; omega)
    have := s25B x hx
    refine ⟨by omega, by omega, fun hm => ?_, fun hm => ?_, fun hm => ?_⟩
    · have := q3 x hm; omega
    · have := q1 x hm; omega
    · have := q2 x hm; omega
  · (repeat refine And.intro rfl ?_)
    exact body5 now l6 w21 v21 T21 nowb
end Go.Vc.S6
