import Derived.Test.YtlohkdkgpajkaaaDoorS6TxtL5
import Derived.Test.YtlohkdkgpajkaaaDoorS6L15
import Derived.Test.YtlohkdkgpajkaaaDoorWinA
open Go Go.Vc Go.Proofs Go.ChangeShapes Go.WideShapes Go.ChangeAt Go.RowKit
set_option linter.unusedVariables false
set_option linter.unusedSimpArgs false
set_option autoImplicit false
namespace Go.Vc.S6
theorem dOf_win {s b : Sl} {l : List Int} {n : Nat} (he : ipErr l = 0) (h : Win s b 0 n) (hn : n = l.length) : Win s (dOf b l) (hdN l) (totN l - hdN l) ∧ (dOf b l).cap ≤ (dOf b l).len := by
  obtain ⟨_, _, _, h4, h5, h6, h7, _⟩ := ipErr_ok he
  unfold dOf
  rw [if_pos he]
  have := h.sub (lo := hdN l) (hi := totN l) (mx := totN l) h6 (by omega) (Nat.le_refl _)
  rw [Nat.zero_add] at this
  exact ⟨this, by simp [Sl.sub]⟩
theorem osOf_win {s b : Sl} {l : List Int} {n : Nat} (hb : Byt l) (he : ipErr l = 0) (h : Win s b 0 n) (hn : n = l.length) : ∀ y ∈ osOf b l, ∃ p q, Win s y.2 p q ∧ y.2.cap ≤ y.2.len := by
  obtain ⟨_, _, _, h4, h5, h6, h7, _, h9, _⟩ := ipErr_ok he
  have hp := (optsP_places ok4_two (obL_byt hb) h9).1
  unfold osOf
  rw [if_pos he]
  intro y hy
  obtain ⟨pr, hpr, rfl⟩ := List.mem_map.1 hy
  obtain ⟨a1, a2, _⟩ := hp pr hpr
  have hol : (obL l).length = hdN l - 20 := by unfold obL; simp; omega
  exact ⟨_, _, (h.sub (lo := 20) (hi := hdN l) (mx := hdN l) h4 (by omega) (Nat.le_refl _)).sub (lo := pr.1 + 2) (hi := pr.2) (mx := pr.2) a1 (by omega) (Nat.le_refl _), by simp [Sl.sub, osAt]⟩
theorem wid_byt {l : List Int} (hb : Byt l) : Byt (wid l) := hb.app (by simp [Byt])

set_option maxRecDepth 10000 in
theorem c3 {b : Sl} {l : List Int} {c : Int} {w : World} (hg : Sees cI64 w wid4 widths4) (h : SeesB w b l) (hb : Byt l) (hc8 : 0 ≤ c ∧ c < 256) (hl : l.length ≤ 140737488351232) : Ret Tryd.prog 3 [.slice b, .int .u8 c] w fun r w1 => r = .bool true ∧ Upd [] [] w w1 := by
  refine f3_of _ _ _ _ ?_
  unfold vc3
  have hbl := h.len
  refine c18 hg fun w1 u1 => ⟨_, rfl, ?_⟩
  refine c19 (h.old u1) (by omega) fun s w2 u2 hs ho => ⟨_, rfl, ?_⟩
  have v2 := u1.then u2
  have hsl := hs.len
  rw [wid_len] at hsl
  have hcap := ho.le
  refine need (by simp; omega) ?_
  have hN : Int.toNat (b.len : Int) = l.length := by omega
  have hW : Win s (s.sub 1 0 (Int.toNat (b.len : Int)) s.cap) 0 (Int.toNat (b.len : Int)) := Win.whole0 (by omega) (by omega) (hs.isSome (by decide) (by rw [wid_len]; omega))
  have hin : ∀ w', SeesB w' s (wid l) → SeesB w' (s.sub 1 0 (Int.toNat (b.len : Int)) s.cap) l := fun w' h' => by
    have := hW.sees w' _ h'
    rw [hN] at this ⊢
    simpa [wid] using this
  have hic : (s.sub 1 0 (Int.toNat (b.len : Int)) s.cap).len ≤ (s.sub 1 0 (Int.toNat (b.len : Int)) s.cap).cap := by simp [Sl.sub]; omega
  have y1 := u1.size
  have sb : ∀ x ∈ s.blk, w.heap.size ≤ x ∧ x < w2.heap.size := fun x hx => by have := ho.blk x hx; omega
  refine c20' (hg.old v2) (hin _ hs) hb hic (by omega) fun v so os d w3 hv hf u3 hO hD h40 hod4 hdl3 hso3 _ ed eos => ⟨_, _, _, _, _, _, _, _, _, _, _, _, _, _, rfl, ?_⟩
  have v3 := v2.then u3
  intro b4 J hJ
  refine brf rfl fun w4 u4 => c21 ⟨_, rfl, kp (Upd.refl _), ?_⟩
  have v4 := v3.then u4
  have n4 := u4.new (b := b4) (by simp)
  have t24 := u3.then u4
  have hs4 := hs.old t24
  have ho4 := ho.old t24
  have y3 := u3.size
  have sob : ∀ x ∈ so.blk, x ∉ s.blk := fun x hx hm => by have := (hso3.blk x hx).1; have := (sb x hm).2; omega
  have sb4 : ∀ x ∈ s.blk, x ∉ [b4] := fun x hx hm => by have := sb x hx; simp at hm; omega
  refine bre' (fun hne => brt rfl (c22T hs4 (h.old v4) hcap (by omega) hb ⟨_, rfl, kp (Upd.refl _), rfl, v4⟩)) (fun he => ?_)
  (repeat refine And.intro rfl ?_)
  refine hJ _ ?_
  clear hJ
  obtain ⟨dwin, dfull⟩ := dOf_win he hW hN
  rw [← ed] at dwin dfull
  have owin := osOf_win hb he hW hN
  rw [← eos] at owin
  have hD4 := hD.old u4
  have hdl := hD.len
  intro b5 w5 u5 hr5
  refine append_full (c := cU8) (new := [7, 8, 9]) (hD4.old u5) dfull (rowB hr5 _ rfl rfl) (by simp) (by decide) (by simp; omega) fun r w6 hr _ u6 => ?_
  have t46 := u5.then u6
  have v6 := v4.then t46
  intro J2 hJ2
  have hrl := hr.len
  rw [List.length_append, show ([7, 8, 9] : List Int).length = 3 from rfl] at hrl
  refine c22T (hs4.old t46) (h.old v6) hcap (by omega) hb ⟨_, rfl, kp (Upd.refl _), brf rfl (brf (by rw [wr_i64 (by omega) (by omega)]; simp; omega) ?_)⟩
  (repeat refine And.intro rfl ?_)
  refine hJ2 _ ?_
  clear hJ2
  have hO6 := (hO.old u4).old t46
  have hs6 := hs4.old t46
  have ho6 := ho4.old t46
  have hosl := hO.len
  refine ⟨fun i w' => Upd [] [] w6 w' ∧ ∃ t : Nat, i = t ∧ t ≤ v.opts.length, fun i _ => (v.opts.length - i).toNat, ⟨Upd.refl _, 0, rfl, by omega⟩, ?_⟩
  rintro i w7 ⟨u7, t, rfl, ht⟩
  have v7 := v6.then u7
  have hO7 := hO6.old u7
  have hs7 := hs6.old u7
  have ho7 := ho6.old u7
  have hol := hO7.slen
  refine brd (fun hlt => ?_) (fun hge => ?_)
  · intro J3 hJ3
    have ht2 : t < v.opts.length := by omega
    have ht3 : t < os.length := by omega
    obtain ⟨_, g2, g3, _⟩ := hO7.get t ht2
    obtain ⟨p, q, _, ofull⟩ := owin _ (List.getElem_mem ht3)
    have h38 := hod4 _ (List.getElem_mem ht2)
    refine needO hO7 (by omega) (by omega) ⟨_, (by rw [Int.toNat_natCast]; exact g2), ?_⟩
    intro b6 w8 u8 hr8
    refine append_full (c := cU8) (new := [7, 8, 9]) (g3.old u8) ofull (rowB hr8 _ rfl rfl) (by simp) (by decide) (by simp; omega) fun r9 w9 hr9 _ u9 => ?_
    have t79 := u8.then u9
    have hrl9 := hr9.len
    have hgl := g3.len
    rw [List.length_append, show ([7, 8, 9] : List Int).length = 3 from rfl] at hrl9
    refine needO (hO7.old t79) (by omega) (by omega) ⟨_, (by rw [Int.toNat_natCast]; exact ((hO7.old t79).get t ht2).2.1), ?_⟩
    refine brf (by rw [wr_i64 (by omega) (by omega)]; simp; omega) (c22T (hs7.old t79) (h.old (v7.then t79)) hcap (by omega) hb ⟨_, rfl, kp (Upd.refl _), brf rfl ?_⟩)
    (repeat refine And.intro rfl ?_)
    refine hJ3 _ ?_
    (repeat refine And.intro rfl ?_)
    exact ⟨⟨u7.then t79, t + 1, wr_succ (by omega), by omega⟩, by rw [wr_succ (q := t) (by omega)]; (try dsimp only); omega⟩
  refine ⟨fun i w' => Upd s.blk [] w7 w' ∧ SeesB w' s (wid l) ∧ Own w1.heap.size 1 w' s ∧ ∃ t : Nat, i = t ∧ t ≤ v.opts.length, fun i _ => (v.opts.length - i).toNat, ⟨(Upd.refl w7).wide (by simp), hs7, ho7, 0, rfl, by omega⟩, ?_⟩
  rintro i w8 ⟨u8, hs8, ho8, t, rfl, ht⟩
  have v8 := v7.step0 u8 (fun x hx => (sb x hx).1)
  have hrow8 := hO7.row.upd u8 sob
  have hO8 : Opts w8 so v.opts os := by
    rw [eos] at hrow8
    have := osOf_opts hb (hin _ hs8) hrow8
    rw [← hv.opts, ← eos] at this
    exact this
  have hwb := wid_byt hb
  have hwl := wid_len l
  refine brd (fun hlt => ?_) (fun hge => ?_)
  · intro J3 hJ3
    have ht2 : t < v.opts.length := by omega
    have ht3 : t < os.length := by omega
    obtain ⟨_, g2, g3, _⟩ := hO8.get t ht2
    obtain ⟨p, q, hwin, _⟩ := owin _ (List.getElem_mem ht3)
    have hwll := hwin.len
    have hwle := hwin.le
    refine needO hO8 (by omega) (by omega) ⟨_, (by rw [Int.toNat_natCast]; exact g2), ?_⟩
    refine c23 hs8 (by omega) fun s4 w9 u9 hs49 ho49 => ⟨_, rfl, kp u9, ?_⟩
    refine ⟨fun j w' => Upd s.blk [] w9 w' ∧ Own w1.heap.size 1 w' s ∧ ∃ k : Nat, j = k ∧ k ≤ q ∧ SeesB w' s (xs 255 p k (wid l)), fun j _ => (q - j).toNat, ⟨(Upd.refl w9).wide (by simp), ho8.old u9, 0, rfl, by omega, by rw [xs_zero]; exact hs8.old u9⟩, ?_⟩
    rintro j w10 ⟨u10, ho10, k, rfl, hk, hs10⟩
    refine brd (fun hlt => ?_) (fun hge => ?_)
    · have hk2 : k < q := by omega
      refine hwin.ix hs10 hk2 ⟨_, hwin.cell hs10 hk2, hwin.ix hs10 hk2 (hwin.store hs10 ho10 hk2 sb4 fun w11 hs11 ho11 u11 => ?_)⟩
      (repeat refine And.intro rfl ?_)
      rw [xs_set (by omega)] at hs11
      exact ⟨⟨u10.step u11 (fun x hx => .inr hx), ho11, k + 1, wr_succ (by omega), by omega, hs11⟩, by rw [wr_succ (q := k) (by omega)]; (try dsimp only); omega⟩
    have hkq : k = q := by omega
    subst hkq
    have hs410 : SeesB w10 s4 (wid l) := hs49.upd u10 (fun x hx hm => by have := (ho49.blk x hx).1; have := (sb x hm).2; have := t24.size; have := t46.size; have := u7.size; have := u8.size; omega)
    refine ⟨fun n i w' => Upd [] [] w10 w' ∧ ∃ m : Nat, i = m ∧ m ≤ l.length + 3 ∧ n = ((min (m - p) k : Nat) : Int), fun _ i _ => ((l.length + 3 : Nat) - i).toNat, ⟨Upd.refl _, 0, rfl, by omega, by simp⟩, ?_⟩
    rintro n i w11 ⟨u11, m, rfl, hm, rfl⟩
    have hs11 := hs10.old u11
    have hs411 := hs410.old u11
    have hxl := xs_len 255 p k (wid l)
    refine brd (fun hlt => ?_) (fun hge => ?_)
    · intro J4 hJ4
      have hm2 : m < l.length + 3 := by omega
      refine needB hs11 (by omega) (by omega) ⟨_, hs11.byte (by omega) (by omega), needB hs411 (by omega) (by omega) ⟨_, hs411.byte (by omega) (by omega), ?_⟩⟩
      have hx := xs_bt (c := 255) (p := p) (k := k) (i := m) (l := wid l) (by omega)
      by_cases e : p ≤ m ∧ m < p + k
      · rw [if_pos e] at hx
        refine brt (by rw [hx]; simp) fun w12 u12 => ?_
        (repeat refine And.intro rfl ?_)
        refine hJ4 _ _ ?_
        (repeat refine And.intro rfl ?_)
        refine ⟨⟨u11.then u12, m + 1, wr_succ (by omega), by omega, ?_⟩, by rw [wr_succ (q := m) (by omega)]; (try dsimp only); omega⟩
        rw [wr_succ (q := min (m - p) k) (by omega)]
        omega
      · rw [if_neg e] at hx
        refine brf (by rw [hx]; simpa using ixor_ne (hwb.bt (m : Int))) fun w12 u12 => ?_
        (repeat refine And.intro rfl ?_)
        refine hJ4 _ _ ?_
        (repeat refine And.intro rfl ?_)
        refine ⟨⟨u11.then u12, m + 1, wr_succ (by omega), by omega, ?_⟩, by rw [wr_succ (q := m) (by omega)]; (try dsimp only); omega⟩
        omega
    have ho11 := ho10.old u11
    refine ⟨fun j w' => Upd s.blk [] w11 w' ∧ Own w1.heap.size 1 w' s ∧ ∃ k' : Nat, j = k' ∧ k' ≤ k ∧ SeesB w' s (xs 255 p k' (xs 255 p k (wid l))), fun j _ => (k - j).toNat, ⟨(Upd.refl w11).wide (by simp), ho11, 0, rfl, by omega, by rw [xs_zero]; exact hs11⟩, ?_⟩
    rintro j w12 ⟨u12, ho12, k', rfl, hk', hs12⟩
    refine brd (fun hlt => ?_) (fun hge => ?_)
    · have hk2 : k' < k := by omega
      refine hwin.ix hs12 hk2 ⟨_, hwin.cell hs12 hk2, hwin.ix hs12 hk2 (hwin.store hs12 ho12 hk2 sb4 fun w13 hs13 ho13 u13 => ?_)⟩
      (repeat refine And.intro rfl ?_)
      rw [xs_set (by rw [xs_len]; omega)] at hs13
      exact ⟨⟨u12.step u13 (fun x hx => .inr hx), ho13, k' + 1, wr_succ (by omega), by omega, hs13⟩, by rw [wr_succ (q := k') (by omega)]; (try dsimp only); omega⟩
    have hkk : k' = k := by omega
    subst hkk
    rw [xs_inv hwb (by decide)] at hs12
    have t812 : Upd s.blk [] w8 w12 := (((u9.wide (m' := s.blk) (by simp)).step u10 (fun x hx => .inr hx)).step u11 (by simp)).step u12 (fun x hx => .inr hx)
    have v12 := v8.step0 t812 (fun x hx => (sb x hx).1)
    refine brf (by simp; omega) (c22T hs12 (h.old v12) hcap (by omega) hb ⟨_, rfl, kp (Upd.refl _), brf rfl ?_⟩)
    (repeat refine And.intro rfl ?_)
    refine hJ3 _ ?_
    (repeat refine And.intro rfl ?_)
    exact ⟨⟨u8.step t812 (fun x hx => .inr hx), hs12, ho12, t + 1, wr_succ (by omega), by omega⟩, by rw [wr_succ (q := t) (by omega)]; (try dsimp only); omega⟩
  have dle := dwin.le
  have dln := dwin.len
  generalize hqd : totN l - hdN l = qd at *
  refine ⟨fun j w' => Upd s.blk [] w8 w' ∧ Own w1.heap.size 1 w' s ∧ ∃ k : Nat, j = k ∧ k ≤ qd ∧ SeesB w' s (xs c (hdN l) k (wid l)), fun j _ => (qd - j).toNat, ⟨(Upd.refl w8).wide (by simp), ho8, 0, rfl, by omega, by rw [xs_zero]; exact hs8⟩, ?_⟩
  rintro j w9 ⟨u9, ho9, k, rfl, hk, hs9⟩
  refine brd (fun hlt => ?_) (fun hge => ?_)
  · have hk2 : k < qd := by omega
    refine dwin.ix hs9 hk2 ⟨_, dwin.cell hs9 hk2, dwin.ix hs9 hk2 fun w10 u10 => dwin.store (hs9.old u10) (ho9.old u10) hk2 sb4 fun w11 hs11 ho11 u11 => ?_⟩
    (repeat refine And.intro rfl ?_)
    rw [xs_set (by omega)] at hs11
    exact ⟨⟨(u9.step u10 (by simp)).step u11 (fun x hx => .inr hx), ho11, k + 1, wr_succ (by omega), by omega, hs11⟩, by rw [wr_succ (q := k) (by omega)]; (try dsimp only); omega⟩
  have hkq : k = qd := by omega
  subst hkq
  have v9 := v8.step0 u9 (fun x hx => (sb x hx).1)
  obtain ⟨_, _, _, h4, h5, _⟩ := ipErr_ok he
  have hL2b : Byt (xs c (hdN l) k (wid l)) := xs_byt hwb hc8
  have hL2l := xs_len c (hdN l) k (wid l)
  have hin2 := hW.sees w9 _ hs9
  rw [List.drop_zero] at hin2
  obtain ⟨l2, hl2⟩ : ∃ l2, l2 = (xs c (hdN l) k (wid l)).take (Int.toNat (b.len : Int)) := ⟨_, rfl⟩
  rw [← hl2] at hin2
  have hl2l : l2.length = l.length := by rw [hl2, List.length_take, hL2l]; omega
  have hl2b : Byt l2 := by rw [hl2]; exact fun x hx => hL2b x (List.mem_of_mem_take hx)
  have hh : l2.take (hdN l) = l.take (hdN l) := bt_ext (by simp; omega) fun i hi => by
    have hi2 : i < hdN l := by simp at hi; omega
    rw [bt_take hi2, bt_take hi2, hl2, bt_take (by omega), xs_bt (by omega), if_neg (by omega)]
    exact bt_app_l (by omega)
  obtain ⟨e1, e2, e3⟩ := ipErr_data hl2l h4 hh
  refine c20' (hg.old v9) hin2 hl2b hic (by omega) fun vv so2 os2 d2 w10 _ _ u10 _ _ _ _ _ _ _ ed2 _ => ⟨_, _, _, _, _, _, _, _, _, _, _, _, _, _, rfl, kp u10, ?_⟩
  have edd : d2 = d := by rw [ed2, ed]; unfold dOf; rw [e1, e2, e3]
  intro b8 J5 hJ5 w11 u11
  have n8 := u11.new (b := b8) (by simp)
  have t911 := u10.then u11
  have hs11 := hs9.old t911
  have ho11 := ho9.old t911
  have v11 := v9.then t911
  have hd11 := dwin.sees _ _ hs11
  have hB : Byt (((xs c (hdN l) k (wid l)).drop (hdN l)).take k) := fun x hx => hL2b x (List.mem_of_mem_drop (List.mem_of_mem_take hx))
  have hd211 : SeesB w11 d2 (((xs c (hdN l) k (wid l)).drop (hdN l)).take k) := by rw [edd]; exact hd11
  refine c21 ⟨_, rfl, kp (Upd.refl _), brf (by rw [e1, he]; rfl) (c24 hd211 hd11 hB hB ⟨_, rfl, kp (Upd.refl _), brf (by simp) ?_⟩)⟩
  (repeat refine And.intro rfl ?_)
  refine hJ5 _ ?_
  clear hJ5
  have dwin2 : Win s d2 (hdN l) k := by rw [edd]; exact dwin
  have sb48 : ∀ x ∈ s.blk, x ∉ [b4, b8] := fun x hx hm => by
    have := sb x hx; have := t24.size; have := t46.size; have := u7.size; have := u8.size; have := u9.size; have := u10.size
    simp at hm; omega
  refine ⟨fun j w' => Upd s.blk [] w11 w' ∧ Own w1.heap.size 1 w' s ∧ ∃ k' : Nat, j = k' ∧ k' ≤ k ∧ SeesB w' s (xs c (hdN l) k' (xs c (hdN l) k (wid l))), fun j _ => (k - j).toNat, ⟨(Upd.refl w11).wide (by simp), ho11, 0, rfl, by omega, by rw [xs_zero]; exact hs11⟩, ?_⟩
  rintro j w12 ⟨u12, ho12, k', rfl, hk', hs12⟩
  refine brd (fun hlt => ?_) (fun hge => ?_)
  · have hk2 : k' < k := by omega
    refine dwin2.ix hs12 hk2 ⟨_, dwin2.cell hs12 hk2, dwin2.ix hs12 hk2 fun w13 u13 => dwin2.store (hs12.old u13) (ho12.old u13) hk2 sb48 fun w14 hs14 ho14 u14 => ?_⟩
    (repeat refine And.intro rfl ?_)
    rw [xs_set (by rw [xs_len]; omega)] at hs14
    exact ⟨⟨(u12.step u13 (by simp)).step u14 (fun x hx => .inr hx), ho14, k' + 1, wr_succ (by omega), by omega, hs14⟩, by rw [wr_succ (q := k') (by omega)]; (try dsimp only); omega⟩
  have hkk : k' = k := by omega
  subst hkk
  rw [xs_inv hwb hc8] at hs12
  have v12 := v11.step0 u12 (fun x hx => (sb x hx).1)
  refine c20' (hg.old v12) (hin _ hs12) hb hic (by omega) fun vw so3 os3 d3 w13 _ _ u13 _ _ _ _ _ _ _ ed3 _ => ⟨_, _, _, _, _, _, _, _, _, _, _, _, _, _, rfl, kp u13, ?_⟩
  intro b11 w14 u14
  have t1214 := u13.then u14
  have hs14 := hs12.old t1214
  have v14 := v12.then t1214
  have edd3 : d3 = d := ed3.trans ed.symm
  have hd14 := dwin.sees _ _ hs14
  have hB' : Byt (((wid l).drop (hdN l)).take k') := fun x hx => hwb x (List.mem_of_mem_drop (List.mem_of_mem_take hx))
  have hd314 : SeesB w14 d3 (((wid l).drop (hdN l)).take k') := by rw [edd3]; exact hd14
  refine c21 ⟨_, rfl, kp (Upd.refl _), brt (by rw [he]; rfl) (c24 hd314 hd14 hB' hB' ⟨_, rfl, kp (Upd.refl _), brt (by simp) (c22T hs14 (h.old v14) hcap (by omega) hb ⟨_, rfl, kp (Upd.refl _), rfl, v14⟩)⟩)⟩
theorem walk3 {H : Type} {W : World} (hg : Sees cI64 W wid4 widths4) (svs : List SV) (ds : List (DataW H)) (h : ArgsD X W [22, 5] svs ds) (hw : (DataW.weightsEach Tryd.prog [22, 5] ds).all (· ≤ reachBytes) = true) :
    Ret Tryd.prog 3 svs W fun r w1 => r = .bool true ∧ Upd [] [] W w1 := by
  obtain ⟨x, _, d1, _, m1, rfl, rfl, h1, h⟩ := argsD_cons h
  obtain ⟨y, _, d2, _, m2, rfl, rfl, h2, h⟩ := argsD_cons h
  obtain ⟨rfl, rfl⟩ := argsD_nil h
  obtain ⟨s, l, rfl, hs, hb, hc, hsl⟩ := deep_bytes' (t := 22) (e := 5) rfl rfl h1
  obtain ⟨n, rfl, hn⟩ := deep_int (t := 5) rfl h2
  have hk := light_len (P := Tryd.prog) (t := 22) (e := 5) (by kernel_rfl) (by kernel_rfl) (light_head (light_arg hw)).1 hsl
  have := wf_u8 hn
  exact c3 hg hs hb this (by omega)
end Go.Vc.S6
