import Derived.Test.YtmchllbemgnieaaDoorS9TxtL12
import Derived.Test.YtmchllbemgnieaaDoorS9Deep
import Derived.Test.YtmchllbemgnieaaDoorWinB
open Go Go.Vc Go.Proofs Go.ChangeShapes Go.WideShapes Go.ChangeAt Go.RowKit
set_option linter.unusedVariables false
set_option linter.unusedSimpArgs false
set_option autoImplicit false
namespace Go.Vc.S9
section
variable {e : Ends} {w : World} {R : SV → World → Prop}
/-- TcpOptions, at hand -/
theorem c33' {b : Sl} {l : List Int} (hg' : Lens w) (h : SeesB w b l) (hb : Byt l) (hc : b.len ≤ b.cap) (hl : l.length < 9223372036854775807)
    (k : ∀ s lo os x w1, Upd [] [] w w1 → Opts w1 s lo os → (∀ o ∈ lo, Byt o.data) → (∀ o ∈ lo, o.data.length ≤ 40) → lo.length ≤ 40 → (∀ y ∈ os, y.2.cap ≤ y.2.len) → Own w.heap.size 2 w1 s → R (.tuple [.slice s, .int .i64 x]) w1) : Ret Tryd.prog 33 [.slice b] w R := by
  refine c33 hg' h hb hc hl (fun w1 u hn => k _ [] [] _ w1 u (Opts.nil _ _ _) (by simp) (by simp) (by simp) (by simp) (Own.none _ _ _)) (fun ps s w1 hp u hs ho => ?_)
  obtain ⟨hpl, hl40⟩ := optsP_places ok9_two hb hp
  have h7 := flat_ge (ps.map (optAt l))
  have h8 := (optsP_ok ok9_two hb hp).2
  rw [List.length_map] at h7
  refine k s _ _ _ w1 u (opts_win hs (h.old u) hpl) (fun o ho => ?_) (fun o ho => ?_) (by rw [List.length_map]; omega) (fun y hy => ?_) ho
  · obtain ⟨p, hp', rfl⟩ := List.mem_map.1 ho
    exact (hb.take _).drop _
  · obtain ⟨p, hp', rfl⟩ := List.mem_map.1 ho
    have := hpl p hp'
    simp [optAt]; omega
  · obtain ⟨p, hp', rfl⟩ := List.mem_map.1 hy
    simp [osAt, Sl.sub]
theorem osT_full {b : Sl} {l : List Int} : ∀ y ∈ osT e b l, y.2.cap ≤ y.2.len := by
  unfold osT
  intro y hy
  split at hy
  · obtain ⟨p, hp', rfl⟩ := List.mem_map.1 hy
    simp [osAt, Sl.sub]
  · simp at hy
theorem dU_full {b : Sl} {l : List Int} : (dU e b l).cap ≤ (dU e b l).len := by
  unfold dU; split
  · simp [Sl.sub]
  · simp
theorem dT_full {b : Sl} {l : List Int} : (dT e b l).cap ≤ (dT e b l).len := by
  unfold dT; split
  · simp [Sl.sub]
  · simp
set_option maxRecDepth 10000 in
theorem c12 {b : Sl} {l : List Int} {c : Int} (hg : Tabs w) (o : e.Ok) (h : SeesB w b l) (hb : Byt l) (hc8 : 0 ≤ c ∧ c < 256) (hl : l.length ≤ 140737488351232) : Ret Tryd.prog 12 [adr e.sv e.sa, adr e.dv e.da, .slice b, .int .u8 c] w fun r w1 => r = .bool true ∧ Upd [] [] w w1 := by
  refine f12_of _ _ _ _ _ _ _ _ ?_
  unfold vc12
  have hbl := h.len
  intro b1 b2 w1 u1
  have n1 := u1.new (b := b1) (by simp)
  have n2 := u1.new (b := b2) (by simp)
  refine c18 (hg.old u1) fun w2 u2 => ⟨_, rfl, kp u2, ?_⟩
  have v2 := u1.then u2
  refine c32 (h.old v2) (by omega) fun s w3 u3 hs ho => ⟨_, rfl, kp u3, ?_⟩
  have v3 := v2.then u3
  have hsl := hs.len
  rw [wid_len] at hsl
  have hcap := ho.le
  refine need (by simp; omega) ?_
  have hN : Int.toNat (b.len : Int) = l.length := by omega
  rw [hN]
  have hW : Win s (s.sub 1 0 l.length s.cap) 0 l.length := Win.whole0 (by omega) (by omega) (hs.isSome (by decide) (by rw [wid_len]; omega))
  generalize hwin : s.sub 1 0 l.length s.cap = wi at *
  have hin : ∀ w', SeesB w' s (wid l) → SeesB w' wi l := fun w' h' => by
    have := hW.sees w' _ h'
    simpa [wid] using this
  have hic : wi.len ≤ wi.cap := by rw [← hwin]; simp [Sl.sub]; omega
  have y1 := u1.size; have y2 := u2.size; have y3 := u3.size
  have sb : ∀ x ∈ s.blk, w.heap.size ≤ x ∧ x < w3.heap.size := fun x hx => by have := ho.blk x hx; omega
  have sb2 : ∀ x ∈ s.blk, w2.heap.size ≤ x := fun x hx => (ho.blk x hx).1
  refine c21 (e := e) (hg.old v3) o (hin _ hs) hb hic (by omega) fun w4 u4 => ⟨_, _, _, _, _, rfl, kp u4, ?_⟩
  have v4 := v3.then u4
  have hdu := dU_sees (e := e) (hin _ (hs.old u4))
  intro b5 w5 u5
  have n5 := u5.new (b := b5) (by simp)
  have v5 := v4.then u5
  have t35 := u4.then u5
  refine c27' (e := e) (hg.old v5) o (hin _ (hs.old t35)) hb hic (by omega) fun so w6 u6 hO6 hd6 ho6 => ⟨_, _, _, _, _, _, _, _, _, _, rfl, kp u6, ?_⟩
  have v6 := v5.then u6
  intro b6 w7 u7
  have n6 := u7.new (b := b6) (by simp)
  have v7 := v6.then u7
  have t37 := (t35.then u6).then u7
  obtain ⟨k1, k2, k3⟩ := tcOf_small (e := e) hb
  have hus := udOf_small (e := e) (l := l)
  refine c33' (hg.l.old v7) (hin _ (hs.old t37)) hb hic (by omega) fun s4 lo os4 x4 w8 u8 hO8 hlb hl4 hlo hfull _ => ⟨_, _, rfl, kp u8, ?_⟩
  have v8 := v7.then u8
  have t38 := t37.then u8
  have hs8 := hs.old t38
  have ho8 := ho.old t38
  have y4 := u4.size; have y5 := u5.size; have y6 := u6.size; have y7 := u7.size; have y8 := u8.size
  have sbB : ∀ x ∈ s.blk, x ∉ [b1, b2, b5, b6] := fun x hx hm => by have := sb x hx; have := sb2 x hx; simp at hm; omega
  intro J hJ
  -- the first list of options
  refine ⟨fun bb i w' => Upd [] [] w8 w' ∧ bb = true ∧ ∃ t : Nat, i = t ∧ t ≤ lo.length, fun _ i _ => (lo.length - i).toNat, ⟨Upd.refl _, rfl, 0, rfl, by omega⟩, ?_⟩
  rintro bb i w9 ⟨u9, rfl, t, rfl, ht⟩
  have v9 := v8.then u9
  have hs9 := hs8.old u9
  have hO9 := hO8.old u9
  have hol := hO9.slen
  intro J1 hJ1
  refine brd (fun hlt => brt rfl ?_) (fun hge => ?_)
  · (repeat refine And.intro rfl ?_)
    refine hJ1 _ ?_
    clear hJ1
    intro J2 hJ2
    have ht2 : t < lo.length := by omega
    have ht3 : t < os4.length := by rw [hO9.len]; exact ht2
    obtain ⟨_, g2, g3, _⟩ := hO9.get t ht2
    have ofull := hfull _ (List.getElem_mem ht3)
    have h40 := hl4 _ (List.getElem_mem ht2)
    refine needO hO9 (by omega) (by omega) ⟨_, (by rw [Int.toNat_natCast]; exact g2), ?_⟩
    intro b9 w10 u10 hr10
    refine append_full (c := cU8) (new := [7, 8, 9]) (g3.old u10) ofull (rowB hr10 _ rfl rfl) (by simp) (by decide) (by simp; omega) fun r w11 hr11 _ u11 => ?_
    have t911 := u10.then u11
    have hrl := hr11.len
    have hgl := g3.len
    rw [List.length_append, show ([7, 8, 9] : List Int).length = 3 from rfl] at hrl
    refine needO (hO9.old t911) (by omega) (by omega) ⟨_, (by rw [Int.toNat_natCast]; exact ((hO9.old t911).get t ht2).2.1), ?_⟩
    refine brt (by rw [wr_i64 (by omega) (by omega)]; simp; omega) (c34T (hs9.old t911) (h.old (v9.then t911)) hcap (by omega) hb ⟨_, rfl, kp (Upd.refl _), ?_⟩)
    (repeat refine And.intro rfl ?_)
    refine hJ2 _ _ ?_
    (repeat refine And.intro rfl ?_)
    exact ⟨⟨u9.then t911, rfl, t + 1, wr_succ (by omega), by omega⟩, by rw [wr_succ (q := t) (by omega)]; (try dsimp only); omega⟩
  (repeat refine And.intro rfl ?_)
  refine hJ _ _ ?_
  clear hJ hJ1
  intro J hJ
  have t69 : Upd [] [] w6 w9 := (u7.forget.then u8).then u9
  have hOt := hO6.old t69
  have hdt := hd6.old t69
  have hdu9 := hdu.old ((u5.forget.then u6).then t69)
  have ho9 := ho8.old u9
  -- the second one
  refine ⟨fun bb i w' => Upd [] [] w9 w' ∧ bb = true ∧ ∃ t : Nat, i = t ∧ t ≤ (tcOf e l).opts.length, fun _ i _ => ((tcOf e l).opts.length - i).toNat, ⟨Upd.refl _, rfl, 0, rfl, by omega⟩, ?_⟩
  rintro bb i w10 ⟨u10, rfl, t', rfl, ht'⟩
  have v10 := v9.then u10
  have hs10 := hs9.old u10
  have hO10 := hOt.old u10
  have hol2 := hO10.slen
  intro J1 hJ1
  refine brd (fun hlt => brt rfl ?_) (fun hge2 => ?_)
  · (repeat refine And.intro rfl ?_)
    refine hJ1 _ ?_
    clear hJ1
    intro J2 hJ2
    have ht2 : t' < (tcOf e l).opts.length := by omega
    have ht3 : t' < (osT e wi l).length := by rw [hO10.len]; exact ht2
    obtain ⟨_, g2, g3, _⟩ := hO10.get t' ht2
    have ofull := osT_full _ (List.getElem_mem ht3)
    have h40 := k2 _ (List.getElem_mem ht2)
    refine needO hO10 (by omega) (by omega) ⟨_, (by rw [Int.toNat_natCast]; exact g2), ?_⟩
    intro b9 w11 u11 hr11
    refine append_full (c := cU8) (new := [7, 8, 9]) (g3.old u11) ofull (rowB hr11 _ rfl rfl) (by simp) (by decide) (by simp; omega) fun r w12 hr12 _ u12 => ?_
    have t1012 := u11.then u12
    have hrl := hr12.len
    have hgl := g3.len
    rw [List.length_append, show ([7, 8, 9] : List Int).length = 3 from rfl] at hrl
    refine needO (hO10.old t1012) (by omega) (by omega) ⟨_, (by rw [Int.toNat_natCast]; exact ((hO10.old t1012).get t' ht2).2.1), ?_⟩
    refine brt (by rw [wr_i64 (by omega) (by omega)]; simp; omega) (c34T (hs10.old t1012) (h.old (v10.then t1012)) hcap (by omega) hb ⟨_, rfl, kp (Upd.refl _), ?_⟩)
    (repeat refine And.intro rfl ?_)
    refine hJ2 _ _ ?_
    (repeat refine And.intro rfl ?_)
    exact ⟨⟨u10.then t1012, rfl, t' + 1, wr_succ (by omega), by omega⟩, by rw [wr_succ (q := t') (by omega)]; (try dsimp only); omega⟩
  (repeat refine And.intro rfl ?_)
  refine hJ _ _ ?_
  clear hJ hJ1
  refine brf rfl ?_
  have hdu10 := hdu9.old u10
  have hdt10 := hdt.old u10
  intro b9 w11 u11 hr11
  refine append_full (c := cU8) (new := [7, 8, 9]) (hdu10.old u11) dU_full (rowB hr11 _ rfl rfl) (by simp) (by decide) (by simp; omega) fun r w12 hr12 _ u12 => ?_
  have t1012 := u11.then u12
  intro b10 w13 u13 hr13
  refine append_full (c := cU8) (new := [7, 8, 9]) ((hdt10.old t1012).old u13) dT_full (rowB hr13 _ rfl rfl) (by simp) (by decide) (by simp; omega) fun r2 w14 hr14 _ u14 => ?_
  have t1014 := (t1012.then u13).then u14
  have v14 := v10.then t1014
  have hrl := hr12.len
  have hrl2 := hr14.len
  rw [List.length_append, show ([7, 8, 9] : List Int).length = 3 from rfl] at hrl hrl2
  intro J3 hJ3
  have hs14 := hs10.old t1014
  refine c34T hs14 (h.old v14) hcap (by omega) hb ⟨_, rfl, kp (Upd.refl _), brf rfl (brf (by simp; omega) (brf (by simp; omega) ?_))⟩
  (repeat refine And.intro rfl ?_)
  refine hJ3 _ ?_
  clear hJ3
  intro J4 hJ4
  have ho14 := ((ho9.old u10).old t1014)
  have hwb : Byt (wid l) := hb.app (by simp [Byt])
  have hwl := wid_len l
  have main : ∀ (D : Sl) (p q : Nat), Win s D p q → p + q ≤ l.length → J4 D (p : Int) w14 := by
    intro D p q hD hpq
    refine hJ4 _ _ _ ?_
    have hDl := hD.len
    refine ⟨fun j w' => Upd s.blk [] w14 w' ∧ Own w2.heap.size 1 w' s ∧ ∃ k : Nat, j = k ∧ k ≤ q ∧ SeesB w' s (xs c p k (wid l)), fun j _ => (q - j).toNat, ⟨(Upd.refl w14).wide (by simp), ho14, 0, rfl, by omega, by rw [xs_zero]; exact hs14⟩, ?_⟩
    rintro j w15 ⟨u15, ho15, k, rfl, hk, hs15⟩
    refine brd (fun hlt => ?_) (fun hge => ?_)
    · have hk2 : k < q := by omega
      refine hD.ix hs15 hk2 ⟨_, hD.cell hs15 hk2, hD.ix hs15 hk2 (hD.store hs15 ho15 hk2 sbB fun w16 hs16 ho16 u16 => ?_)⟩
      (repeat refine And.intro rfl ?_)
      rw [xs_set (by omega)] at hs16
      exact ⟨⟨u15.step u16 (fun x hx => .inr hx), ho16, k + 1, wr_succ (by omega), by omega, hs16⟩, by rw [wr_succ (q := k) (by omega)]; (try dsimp only); omega⟩
    have hkq : k = q := by omega
    subst hkq
    have v15 := v14.step0 u15 (fun x hx => (sb x hx).1)
    have h15 := h.upd' (h.old v14) u15 (fun x hx => (sb x hx).1)
    have hxl := xs_len c p k (wid l)
    refine ⟨fun i w' => Upd [] [] w15 w' ∧ ∃ m : Nat, i = m ∧ m ≤ k, fun i _ => (k - i).toNat, ⟨Upd.refl _, 0, rfl, by omega⟩, ?_⟩
    rintro i w16 ⟨u16, m, rfl, hm⟩
    have v16 := v15.then u16
    refine brd (fun hlt => ?_) (fun hge => ⟨rfl, v16⟩)
    have hm2 : m < k := by omega
    rw [wr_i64 (x := (p : Int) + m) (by omega) (by omega)]
    have e1 : (p : Int) + m = ((p + m : Nat) : Int) := by omega
    rw [e1]
    have hs16 := hs15.old u16
    have h16 := h15.old u16
    refine needB hs16 (by omega) (by omega) ⟨_, hs16.byte (by omega) (by omega), needB h16 (by omega) (by omega) ⟨_, h16.byte (by omega) (by omega), ?_⟩⟩
    have e2 : bt (xs c p k (wid l)) ((p + m : Nat) : Int) = ixor .u8 (bt l ((p + m : Nat) : Int)) c := by
      rw [xs_bt (by omega), if_pos (by omega)]
      have : bt (wid l) ((p + m : Nat) : Int) = bt l ((p + m : Nat) : Int) := bt_app_l (by omega)
      rw [this]
    refine brf (by rw [e2]; simp) fun w17 u17 => ?_
    (repeat refine And.intro rfl ?_)
    exact ⟨⟨u16.then u17, m + 1, wr_succ (by omega), by omega⟩, by rw [wr_succ (q := m) (by omega)]; (try dsimp only); omega⟩
  refine c20 ⟨_, rfl, kp (Upd.refl _), bre' (fun hu => c20 ⟨_, rfl, kp (Upd.refl _), bre' (fun htc => c20 ⟨_, rfl, kp (Upd.refl _), bre' (fun _ => ⟨rfl, v14⟩) (fun _ => bre (fun _ => ⟨rfl, v14⟩) (fun _ => c34T hs14 (h.old v14) hcap (by omega) hb ⟨_, rfl, kp (Upd.refl _), rfl, v14⟩))⟩) (fun htc => ?_)⟩) (fun hu => ?_)⟩
  · (repeat refine And.intro rfl ?_)
    obtain ⟨_, _, h3, h4, _⟩ := tcErr_ok htc
    have eD : dT e wi l = wi.sub 1 (tcHd l) l.length l.length := by unfold dT; rw [if_pos htc]
    have hD := hW.sub (lo := tcHd l) (hi := l.length) (mx := l.length) h4 (Nat.le_refl _) (Nat.le_refl _)
    rw [← eD, Nat.zero_add] at hD
    have hDl := hD.len
    have e3 : wr .i64 ((b.len : Int) - (dT e wi l).len) = (tcHd l : Int) := by rw [wr_i64 (by omega) (by omega)]; omega
    rw [e3]
    exact main _ _ _ hD (by omega)
  · (repeat refine And.intro rfl ?_)
    obtain ⟨_, _, h3, h4, _⟩ := udErr_ok hu
    have eD : dU e wi l = wi.sub 1 8 (udLen l) (udLen l) := by unfold dU; rw [if_pos hu]
    have hD := hW.sub (lo := 8) (hi := udLen l) (mx := udLen l) h3 h4 (Nat.le_refl _)
    rw [← eD, Nat.zero_add] at hD
    exact main _ 8 _ hD (by omega)
end
section
variable {H : Type} {W : World}
theorem walk12 (hg : Tabs W) (svs : List SV) (ds : List (DataW H)) (h : ArgsD X W [27, 27, 28, 5] svs ds) (hw : (DataW.weightsEach Tryd.prog [27, 27, 28, 5] ds).all (· ≤ reachBytes) = true) :
    Ret Tryd.prog 12 svs W fun r w1 => r = .bool true ∧ Upd [] [] W w1 := by
  obtain ⟨x, _, d1, _, m1, rfl, rfl, h1, h⟩ := argsD_cons h
  obtain ⟨y, _, d2, _, m2, rfl, rfl, h2, h⟩ := argsD_cons h
  obtain ⟨z, _, d3, _, m3, rfl, rfl, h3, h⟩ := argsD_cons h
  obtain ⟨z', _, d4, _, m4, rfl, rfl, h4, h⟩ := argsD_cons h
  obtain ⟨rfl, rfl⟩ := argsD_nil h
  obtain ⟨sv, sa, rfl, hsa⟩ := deep_adr h1
  obtain ⟨dv, da, rfl, hda⟩ := deep_adr h2
  obtain ⟨s, l, rfl, hs, hb, hc, hsl⟩ := deep_bytes' (t := 28) (e := 5) rfl rfl h3
  obtain ⟨n, rfl, hn⟩ := deep_int (t := 5) rfl h4
  have hn2 := light_len (P := Tryd.prog) (t := 28) (e := 5) (by kernel_rfl) (by kernel_rfl) (light_head (light_head (light_head (light_arg hw)).2).2).1 hsl
  exact c12 (e := ⟨sv, sa, dv, da⟩) hg ⟨hsa, hda⟩ hs hb (wf_u8 hn) (by omega)
end
end Go.Vc.S9
