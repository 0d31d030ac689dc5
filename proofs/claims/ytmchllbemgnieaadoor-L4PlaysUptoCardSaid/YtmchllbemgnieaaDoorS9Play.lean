import Derived.Test.YtmchllbemgnieaaDoorS9TxtP
import Derived.Test.YtmchllbemgnieaaDoorS9L12
import Derived.Test.YtmchllbemgnieaaDoorS9L13
import Derived.Test.YtmchllbemgnieaaDoorG10
open Go Go.Vc Go.Proofs Go.ChangeShapes Go.WideShapes Go.ChangeAt Go.RowKit
set_option linter.unusedVariables false
set_option linter.unusedSimpArgs false
set_option autoImplicit false
namespace Go.Vc.S9
section
variable {w : World} {R : SV → World → Prop}
theorem AllB.app {w : World} : ∀ {a b : List Sl} {x y : List (List Int)}, AllB w a x → AllB w b y → AllB w (a ++ b) (x ++ y)
  | [], _, [], _, _, h => h
  | _ :: _, _, _ :: _, _, h, h2 => ⟨h.1, AllB.app h.2 h2⟩
theorem AllB.upd {w w1 : World} {m n : List Nat} (u : Upd m n w w1) : ∀ {a : List Sl} {x : List (List Int)}, AllB w a x → (∀ g ∈ a, ∀ y ∈ g.blk, y ∉ m) → AllB w1 a x
  | [], [], _, _ => trivial
  | g :: _, _ :: _, h, hm => ⟨h.1.upd u (hm g (by simp)), AllB.upd u h.2 fun g' hg => hm g' (by simp [hg])⟩
/-- a longer list of options, each one's data in a longer one -/
theorem c95 {s : Sl} {l : List Opt} {os : List (Int × Sl)} (h : Opts w s l os) (hl : l.length ≤ 1099511627776) (hd : ∀ o ∈ l, o.data.length ≤ 140737488351232)
    (k : ∀ m p om ws w1, Upd [] [] w w1 → Opts w1 m (l ++ [⟨99, []⟩]) (om ++ [(99, ⟨none, 0, 0⟩)]) → m.len ≤ m.cap → Parts w1 p (l.map fun o => wid o.data) ws → (∀ g ∈ ws, g.len ≤ g.cap) → (∀ x ∈ m.blk, w.heap.size ≤ x) → (∀ y ∈ om, ∀ x ∈ y.2.blk, w.heap.size ≤ x) → (∀ x ∈ p.blk, w.heap.size ≤ x) → (∀ g ∈ ws, ∀ x ∈ g.blk, w.heap.size ≤ x) → R (.tuple [.slice m, .slice p]) w1) : Ret Tryd.prog 95 [.slice s] w R := by
  refine f95_of _ _ _ ?_
  unfold vc95
  have hsl := h.slen
  refine ⟨fun m p i w1 => Upd [] [] w w1 ∧ Own w.heap.size 2 w1 m ∧ Own w.heap.size 1 w1 p ∧ ∃ (t : Nat) (om : List (Int × Sl)) (ws : List Sl), i = t ∧ t ≤ l.length ∧ Opts w1 m (l.take t) om ∧ Sees cSl w1 p ws ∧ AllB w1 ws ((l.take t).map fun o => wid o.data) ∧ (∀ g ∈ ws, g.len ≤ g.cap) ∧ (∀ g ∈ ws, ∀ x ∈ g.blk, x < w1.heap.size ∧ x ∉ m.blk ∧ x ∉ p.blk ∧ w.heap.size ≤ x) ∧ (∀ y ∈ om, ∀ x ∈ y.2.blk, x < w1.heap.size ∧ x ∉ m.blk ∧ x ∉ p.blk ∧ w.heap.size ≤ x) ∧ (∀ x ∈ m.blk, x ∉ p.blk), fun _ _ i _ => (l.length - i).toNat,
    ⟨Upd.refl w, Own.none _ _ _, Own.none _ _ _, 0, [], [], rfl, by omega, Opts.nil _ _ _, Sees.nil _ _ _ _, trivial, by simp, by simp, by simp, by simp [Sl.blk]⟩, ?_⟩
  rintro m p i w1 ⟨u, oM, oP, t, om, ws, rfl, ht, hO, hP, hA, hwc, hws, hom, hmp⟩
  have h1 := h.old u
  have bM := oM.blk
  have bP := oP.blk
  have yu := u.size
  refine brd (fun hlt => ?_) (fun hge => ?_)
  · have ht2 : t < l.length := by omega
    obtain ⟨g1, g2, g3, g4⟩ := h1.get t ht2
    have hdt := hd _ (List.getElem_mem ht2)
    refine needO h1 (by omega) (by omega) ⟨_, (by rw [Int.toNat_natCast]; exact g2), ?_⟩
    refine c32 g3 (by omega) fun s3 w2 u2 hs3 ho3 => ⟨_, rfl, ?_⟩
    intro b w3 u3 hr3
    have y2 := u2.size; have y3 := u3.size
    have t13 := u2.then u3
    have b3 := ho3.blk
    refine append_own (c := cSl) (new := [s3]) (hP.old t13) (oP.old t13) (sees_row hr3 [s3] rfl rfl) (by omega) (by simp) (by decide) (by have := hA.len; simp at this ⊢; omega) fun p' w4 hP4 oP4 u4 hn4 => ?_
    have y4 := u4.size
    have bP4 := oP4.blk
    have v4 := (u.then t13).step0 u4 (fun x hx => (bP x hx).1)
    have h4 := h.old v4
    obtain ⟨k1, k2, _, _⟩ := h4.get t ht2
    have hs34 := (hs3.old u3).upd u4 (fun x hx hm => by have := b3 x hx; have := bP x hm; omega)
    have hl3 := hs34.len
    rw [wid_len] at hl3
    have hc3 := ho3.le
    have hgl := g3.len
    refine needO h4 (by omega) (by omega) ⟨_, (by rw [Int.toNat_natCast]; exact k1), needO h4 (by omega) (by omega) ⟨_, (by rw [Int.toNat_natCast]; exact k2), need (by simp; omega) ?_⟩⟩
    intro b' w5 u5 hr5
    have y5 := u5.size
    have hO5 := ((hO.old t13).upd u4 hmp (fun y hy x hx => (hom y hy x hx).2.2.1)).old u5
    have oM5 := ((oM.old t13).upd u4 hmp).old u5
    refine append_own (c := cOpt) (new := [(l[t].kind, s3.sub 1 0 (Int.toNat ((os[t]'(by rw [h.len]; exact ht2)).2.len : Int)) s3.cap)]) hO5.row oM5 (optRow hr5 rfl rfl) (by omega) (by simp) (by decide) (by simp [hO5.len]; omega) fun m' w6 hM6 oM6 u6 hn6 => ?_
    have y6 := u6.size
    have e3 : Int.toNat ((os[t]'(by rw [h.len]; exact ht2)).2.len : Int) = l[t].data.length := by omega
    have hs36 := (hs34.old u5).upd u6 (fun x hx hm => by have := b3 x hx; have := bM x hm; omega)
    have hin6 : SeesB w6 (s3.sub 1 0 (Int.toNat ((os[t]'(by rw [h.len]; exact ht2)).2.len : Int)) s3.cap) l[t].data := by rw [e3]; exact wid_in hs36 hc3
    have hOs := Opts.snoc (o := l[t]) hO5 hM6 hin6 (fun j h2 => (hO5.each j h2).upd u6 (fun x hx => (hom _ (List.getElem_mem _) x hx).2.1))
    have hP6 := (hP4.old u5).upd u6 (fun x hx hm => by
      rcases hn4 x hx with q | q
      · exact hmp x hm q
      · have := (bM x hm).2; omega)
    have oP6 := (oP4.old u5).upd u6 (fun x hx hm => by
      rcases hn4 x hx with q | q
      · exact hmp x hm q
      · have := (bM x hm).2; omega)
    have gen : ∀ x, (x < w1.heap.size ∧ x ∉ m.blk ∧ x ∉ p.blk ∧ w.heap.size ≤ x) ∨ (w1.heap.size ≤ x ∧ x < w2.heap.size) → x < w6.heap.size ∧ x ∉ m'.blk ∧ x ∉ p'.blk ∧ w.heap.size ≤ x := by
      intro x hx
      refine ⟨by omega, fun hm => ?_, fun hm => ?_, by omega⟩
      · rcases hn6 x hm with q | q
        · rcases hx with hx | hx
          · exact hx.2.1 q
          · have := (bM x q).2; omega
        · omega
      · rcases hn4 x hm with q | q
        · rcases hx with hx | hx
          · exact hx.2.2.1 q
          · have := (bP x q).2; omega
        · omega
    have hA6 : AllB w6 ws ((l.take t).map fun o => wid o.data) := AllB.upd u6 (AllB.upd u5 (AllB.upd u4 (AllB.upd t13 hA (by simp)) (fun g hg x hx => (hws g hg x hx).2.2.1)) (by simp)) (fun g hg x hx => (hws g hg x hx).2.1)
    refine ⟨⟨(v4.then u5).step0 u6 (fun x hx => (bM x hx).1), oM6, oP6, t + 1, _, ws ++ [s3], wr_succ (by omega), by omega, by rw [take_snoc ht2]; exact hOs, hP6, by rw [take_snoc ht2, List.map_append]; exact AllB.app hA6 ⟨hs36, trivial⟩, ?_, ?_, ?_, ?_⟩, by rw [wr_succ (q := t) (by omega)]; (try dsimp only); omega⟩
    · intro g hg
      rcases List.mem_append.1 hg with q | q
      · exact hwc g q
      · rw [List.mem_singleton] at q; subst q; exact hc3
    · intro g hg x hx
      rcases List.mem_append.1 hg with q | q
      · exact gen x (.inl (hws g q x hx))
      · rw [List.mem_singleton] at q; subst q; exact gen x (.inr (b3 x hx))
    · intro y hy x hx
      rcases List.mem_append.1 hy with q | q
      · exact gen x (.inl (hom y q x hx))
      · rw [List.mem_singleton] at q; subst q; exact gen x (.inr (b3 x (sub_blk x hx)))
    · intro x hx hp
      have := (oP4.blk x hp).2
      rcases hn6 x hx with q | q
      · rcases hn4 x hp with q2 | q2
        · exact hmp x q q2
        · have := (bM x q).2; omega
      · omega
  · have htl : t = l.length := by omega
    subst htl
    rw [List.take_length] at hO hA
    intro b w2 u2 hr2
    have y2 := u2.size
    refine append_own (c := cOpt) (new := [(99, ⟨none, 0, 0⟩)]) (hO.old u2).row (oM.old u2) (optRow hr2 rfl rfl) (by omega) (by simp) (by decide) (by simp [hO.len]; omega) fun m' w3 hM3 oM3 u3 hn3 => ?_
    have hO2 := hO.old u2
    have hA3 : AllB w3 ws (l.map fun o => wid o.data) := AllB.upd u3 (AllB.upd u2 hA (by simp)) (fun g hg x hx => (hws g hg x hx).2.1)
    exact k m' p om ws w3 ((u.then u2).step0 u3 (fun x hx => (bM x hx).1)) (Opts.snoc (o := ⟨99, []⟩) hO2 hM3 (Sees.nil _ _ _ _) (fun j h2 => (hO2.each j h2).upd u3 (fun x hx => (hom _ (List.getElem_mem _) x hx).2.1))) oM3.le ⟨(hP.old u2).upd u3 (fun x hx hm => hmp x hm hx), hA3.len, hA3.get⟩ hwc (fun x hx => (oM3.blk x hx).1) (fun y hy x hx => (hom y hy x hx).2.2.2) (fun x hx => (bP x hx).1) (fun g hg x hx => (hws g hg x hx).2.2.2)
/-- n options of a longer list -/
theorem opts_in {m : Sl} {l : List Opt} {om : List (Int × Sl)} {e : Opt} {y : Int × Sl} {n : Nat} (h : Opts w m (l ++ [e]) (om ++ [y])) (hn : n = l.length) (hc : m.len ≤ m.cap) : Opts w (m.sub 2 0 n m.cap) l om := by
  subst hn
  have hl := h.len
  simp at hl
  have hsl := h.slen
  have hs := h.row.sub (lo := 0) (hi := l.length) (mx := m.cap) (by omega) (by simp; omega) (by simp at hsl; omega)
  rw [List.drop_zero, ← hl, List.take_left] at hs
  rw [hl] at hs
  refine ⟨hs, hl, fun i hi => ?_, fun i hi => ?_⟩
  · have := h.kind i (by simp; omega)
    rw [List.getElem_append_left (by omega), List.getElem_append_left hi] at this
    exact this
  · have := h.each i (by simp; omega)
    rw [List.getElem_append_left (by omega), List.getElem_append_left hi] at this
    exact this
theorem c96 {m p s : Sl} {l : List Opt} {os om : List (Int × Sl)} {ws : List Sl} (h : Opts w s l os) (hm : Opts w m (l ++ [⟨99, []⟩]) (om ++ [(99, ⟨none, 0, 0⟩)])) (hc : m.len ≤ m.cap) (hp : Parts w p (l.map fun o => wid o.data) ws) (hwc : ∀ g ∈ ws, g.len ≤ g.cap)
    (hl : l.length ≤ 1099511627776) (hd : ∀ o ∈ l, o.data.length ≤ 140737488351232) (hb : ∀ o ∈ l, Byt o.data) (k : ∀ w1, Upd [] [] w w1 → R (.bool true) w1) : Ret Tryd.prog 96 [.slice m, .slice p, .slice s] w R := by
  refine f96_of _ _ _ _ _ ?_
  unfold vc96
  intro J hJ
  have hsl := h.slen
  have hml := hm.slen
  rw [List.length_append, show ([⟨99, []⟩] : List Opt).length = 1 from rfl] at hml
  have hom := hm.len
  simp at hom
  obtain ⟨g1, _, _, _⟩ := hm.get l.length (by simp)
  rw [List.getElem_append_right (Nat.le_refl _)] at g1
  simp only [Nat.sub_self, List.getElem_cons_zero] at g1
  have hN : Int.toNat (s.len : Int) = l.length := by omega
  refine brf (by rw [wr_i64 (by omega) (by omega)]; simp; omega) (needO hm (by omega) (by simp; omega) ⟨99, (by rw [hN]; exact g1), brf rfl (need (by simp; omega) ?_)⟩)
  rw [hN]
  refine c47 (opts_in hm rfl hc) h hb hb (by omega) fun w1 u1 => ⟨_, rfl, brf (by simp) ?_⟩
  (repeat refine And.intro rfl ?_)
  refine hJ _ ?_
  clear hJ
  have hp1 := hp.old u1
  have h1 := h.old u1
  have hpl := hp1.slen
  rw [List.length_map] at hpl
  refine ⟨fun i w2 => Upd [] [] w1 w2 ∧ ∃ t : Nat, i = t ∧ t ≤ l.length, fun i _ => (l.length - i).toNat, ⟨Upd.refl _, 0, rfl, by omega⟩, ?_⟩
  rintro i w2 ⟨u2, t, rfl, ht⟩
  have hp2 := hp1.old u2
  have h2 := h1.old u2
  refine brd (fun hlt => ?_) (fun hge => k _ (u1.then u2))
  have ht2 : t < l.length := by omega
  obtain ⟨q1, q2, hcell, hs, hsome⟩ := hp2.get (i := (t : Int)) (by omega) (by simp; omega)
  simp only [Int.toNat_natCast, List.getElem_map] at q1 q2 hcell hs
  obtain ⟨_, k2, k3, _⟩ := h2.get t ht2
  refine needP hp2 (by omega) (by simp; omega) ⟨_, (show w2.cell? (p.at 1 t) = _ from hcell), needO h2 (by omega) (by omega) ⟨_, (by rw [Int.toNat_natCast]; exact k2), fun w3 u3 => ?_⟩⟩
  refine c34T (hs.old u3) (k3.old u3) (hwc _ (List.getElem_mem _)) (by have := hd _ (List.getElem_mem ht2); omega) (hb _ (List.getElem_mem ht2)) ⟨_, rfl, brf rfl ?_⟩
  (repeat refine And.intro rfl ?_)
  exact ⟨⟨u2.then u3, t + 1, wr_succ (by omega), by omega⟩, by rw [wr_succ (q := t) (by omega)]; (try dsimp only); omega⟩
abbrev opSV (kd : Int) (e : Ends) (b : Sl) (u : UdV) (ud : Sl) (t : TcV) (so sd sl : Sl) (n : Int) : SV := .struct [.int .i64 kd, adr e.sv e.sa, adr e.dv e.da, .slice b, udSV u ud, tcSV t so sd, .slice sl, .int .i64 n]
variable {e : Ends} {u : UdV} {ud : Sl} {t : TcV} {so sd sl : Sl} {os ol : List (Int × Sl)} {ll : List Opt} {kd n : Int} {b : Sl} {l : List Int}
set_option maxRecDepth 10000 in
theorem c66 (hg : Tabs w) (o : e.Ok) (h : SeesB w b l) (hb : Byt l) (hc : b.len ≤ b.cap) (hl : l.length ≤ 140737488351232) (k : ∀ w1, Upd [] [] w w1 → R (.bool true) w1) : Ret Tryd.prog 66 [opSV kd e b u ud t so sd sl n] w R := by
  refine f66_of _ _ _ _ _ _ _ _ _ _ _ _ _ _ _ _ _ _ _ _ _ _ _ ?_
  unfold vc66
  have hbl := h.len
  intro b0 w1 u1
  have n0 := u1.new (b := b0) (by simp)
  refine c32 (h.old u1) (by omega) fun s w2 u2 hs ho => ⟨_, rfl, kp u2, need (by have := hs.len; rw [wid_len] at this; have := ho.le; simp; omega) ?_⟩
  have v2 := u1.then u2
  have hsl := hs.len
  rw [wid_len] at hsl
  have hcap := ho.le
  have hN : Int.toNat (b.len : Int) = l.length := by omega
  rw [hN]
  have hin : ∀ w', SeesB w' s (wid l) → SeesB w' (s.sub 1 0 l.length s.cap) l := fun w' h' => wid_in h' hcap
  have hic : (s.sub 1 0 l.length s.cap).len ≤ (s.sub 1 0 l.length s.cap).cap := by simp [Sl.sub]; omega
  intro J hJ
  have fin : ∀ w3, Upd [] [] w2 w3 → J true w3 := fun w3 u3 => by
    refine hJ _ _ ?_
    (repeat refine And.intro rfl ?_)
    exact brt rfl (c34T (hs.old u3) (h.old (v2.then u3)) hcap (by omega) hb ⟨_, rfl, kp (Upd.refl _), k _ (v2.then u3)⟩)
  have hfu := udOf_fit (e := e) hb
  have hft := tcOf_fit (e := e) hb
  obtain ⟨k1, k2, k3⟩ := tcOf_small (e := e) hb
  refine bre (fun _ => ?_) (fun _ => bre (fun _ => ?_) (fun _ => bre (fun _ => ?_) (fun _ => ?_)))
  · refine c21 (e := e) (hg.old v2) o (hin _ hs) hb hic (by omega) fun w3 u3 => ⟨_, _, _, _, _, rfl, kp u3, ?_⟩
    have hd3 := dU_sees (e := e) (hin _ (hs.old u3))
    intro b4 w4 u4
    have t24 := u3.then u4
    refine c44 (e := e) o (h.old (v2.then t24)) hb hc (by omega) fun d w5 u5 hd5 _ => ⟨_, _, _, _, _, rfl, kp u5, ?_⟩
    intro b6 w6 u6
    have t46 := u5.then u6
    refine c20 ⟨_, rfl, kp (Upd.refl _), brt (by simp) ?_⟩
    refine c23T ((hd3.old u4).old t46) (hd5.old u6) hfu.data fun w7 u7 => ⟨_, rfl, kp u7, ?_⟩
    (repeat refine And.intro rfl ?_)
    exact fin _ ((t24.then t46).then u7)
  · refine c27' (e := e) (hg.old v2) o (hin _ hs) hb hic (by omega) fun so3 w3 u3 hO3 hD3 _ => ⟨_, _, _, _, _, _, _, _, _, _, rfl, kp u3, ?_⟩
    intro b4 w4 u4
    have t24 := u3.then u4
    refine c45 (e := e) o (h.old (v2.then t24)) hb hc (by omega) fun so5 os5 d5 w5 u5 hO5 _ _ hD5 _ => ⟨_, _, _, _, _, _, _, _, _, _, rfl, kp u5, ?_⟩
    intro b6 w6 u6
    have t46 := u5.then u6
    refine c20 ⟨_, rfl, kp (Upd.refl _), brt (by simp) ?_⟩
    have t36 := u4.forget.then t46
    refine c28T (hO3.old t36) (hO5.old u6) hft.opts (by omega) (hD3.old t36) (hD5.old u6) hft.data fun w7 u7 => ⟨_, rfl, kp u7, ?_⟩
    (repeat refine And.intro rfl ?_)
    exact fin _ ((t24.then t46).then u7)
  · refine c33 (hg.l.old v2) (hin _ hs) hb hic (by omega) (fun w3 u3 hn => ⟨_, _, rfl, kp u3, ?_⟩) (fun ps s3 w3 hp u3 hs3 ho3 => ⟨_, _, rfl, kp u3, ?_⟩)
    · refine c46 (h.old (v2.then u3)) hb hc (by omega) (fun w4 u4 _ => ⟨_, _, rfl, kp u4, ?_⟩) (fun ps s4 os4 w4 e _ _ _ _ => absurd (hn.symm.trans e) (by simp))
      refine c20 ⟨_, rfl, kp (Upd.refl _), brt (by simp) (c47 (Opts.nil _ _ _) (Opts.nil _ _ _) (by simp) (by simp) (by simp) fun w5 u5 => ⟨_, rfl, kp u5, ?_⟩)⟩
      (repeat refine And.intro rfl ?_)
      exact fin _ ((u3.then u4).then u5)
    · refine c46 (h.old (v2.then u3)) hb hc (by omega) (fun w4 u4 e => absurd (hp.symm.trans e) (by simp)) (fun ps4 s4 os4 w4 e u4 hO4 _ _ => ⟨_, _, rfl, kp u4, ?_⟩)
      obtain rfl : ps = ps4 := Option.some.inj (hp.symm.trans e)
      have hpl := optsP_places ok9_two hb hp
      have h7 := flat_ge (ps.map (optAt l))
      have h8 := (optsP_ok ok9_two hb hp).2
      have hO3 := opts_win hs3 (hin _ (hs.old u3)) hpl.1
      have hbo : ∀ o ∈ ps.map (optAt l), Byt o.data := fun o ho x hx => by
        obtain ⟨y, _, rfl⟩ := List.mem_map.1 ho
        exact hb x (List.mem_of_mem_take (List.mem_of_mem_drop hx))
      refine c20 ⟨_, rfl, kp (Upd.refl _), brt (by simp) (c47 (hO3.old u4) hO4 hbo hbo (by omega) fun w5 u5 => ⟨_, rfl, kp u5, ?_⟩)⟩
      (repeat refine And.intro rfl ?_)
      rw [decide_eq_true rfl]
      exact fin _ ((u3.then u4).then u5)
  · (repeat refine And.intro rfl ?_)
    exact fin _ (Upd.refl _)
set_option maxRecDepth 10000 in
theorem c67 (hg : Tabs w) (o : e.Ok) (h : HandU w u ud) (k : ∀ w1, Upd [] [] w w1 → R (.bool true) w1) : Ret Tryd.prog 67 [opSV kd e b u ud t so sd sl n] w R := by
  refine f67_of _ _ _ _ _ _ _ _ _ _ _ _ _ _ _ _ _ _ _ _ _ _ _ ?_
  unfold vc67
  have hbl := h.data.len
  have hdl := h.dlen
  intro b0 b1 w1 u1
  have n0 := u1.new (b := b0) (by simp)
  have n1 := u1.new (b := b1) (by simp)
  refine c32 (h.old u1).data (by omega) fun s w2 u2 hs ho => ⟨_, rfl, kp u2, need (by have := hs.len; rw [wid_len] at this; have := ho.le; simp; omega) ?_⟩
  have v2 := u1.then u2
  have y2 := u2.size
  have hcap := ho.le
  have hsl := hs.len
  rw [wid_len] at hsl
  have hN : Int.toNat (ud.len : Int) = u.data.length := by omega
  rw [hN]
  have hin : ∀ w', SeesB w' s (wid u.data) → SeesB w' (s.sub 1 0 u.data.length s.cap) u.data := fun w' h' => wid_in h' hcap
  have sB : ∀ x ∈ s.blk, x ∉ [b1] := fun x hx hm => by have := (ho.blk x hx).1; simp at hm; omega
  have fr : ∀ x ∈ [b1], w.heap.size ≤ x := by simp; omega
  intro J hJ
  have fin : ∀ w3 w4, Upd [b1] [] w2 w3 → Upd [] [] w3 w4 → J true w4 := fun w3 w4 u3 u4 => by
    refine hJ _ _ ?_
    (repeat refine And.intro rfl ?_)
    have v4 := (v2.step0 u3 fr).then u4
    have hs4 := (hs.upd u3 sB).old u4
    refine brt rfl (c23T (hin _ hs4) (h.old v4).data h.fit.data fun w5 u5 => ⟨_, rfl, kp u5, brt rfl ?_⟩)
    exact c34T (hs4.old u5) (h.old (v4.then u5)).data hcap (by omega) h.fit.data ⟨_, rfl, kp (Upd.refl _), k _ (v4.then u5)⟩
  refine bre (fun _ w3 u3 => ?_) (fun _ w3 u3 => ?_)
  · have v3 := v2.step0 u3 fr
    refine c25 (hin _ (hs.upd u3 sB)).len fun w4 u4 => ⟨_, rfl, kp u4, fun w5 u5 => c20 ⟨_, rfl, kp (Upd.refl _), u5.forget, ?_⟩⟩
    have t35 := u4.then u5
    refine c59 (h.old (v3.then t35)).data.len (by omega) fun w6 u6 => ⟨_, rfl, kp u6, ?_⟩
    (repeat refine And.intro rfl ?_)
    rw [beq_self_eq_true]
    exact fin _ _ u3 (t35.then u6)
  · have v3 := v2.step0 u3 fr
    refine c19 (e := e) (hg.old v3) o h.fit (hin _ (hs.upd u3 sB)) fun r w4 u4 hr _ => ⟨_, _, rfl, kp u4, ?_⟩
    refine c54 (e := e) o h.fit (h.old (v3.then u4)).data (by omega) fun r2 w5 u5 hr2 _ => ⟨_, _, rfl, kp u5, c20 ⟨_, rfl, kp (Upd.refl _), brt (by simp) ?_⟩⟩
    have bS := udSerL_byt (e := e) h.fit
    refine c30 (hr.old u5) hr2 bS bS ⟨_, rfl, kp (Upd.refl _), ?_⟩
    (repeat refine And.intro rfl ?_)
    rw [decide_eq_true rfl]
    exact fin _ _ u3 (u4.then u5)
theorem putL9_byt {l : List Opt} (hb : ∀ o ∈ l, Byt o.data) : Byt (putL9 l) := by
  unfold putL9; split
  · exact putO_byt hb
  · intro x hx; simp at hx
set_option maxRecDepth 10000 in
theorem c68 (hg : Tabs w) (o : e.Ok) (h : HandT w t so sd os) (hfew : t.opts.length ≤ 1099511627776) (hl : Opts w sl ll ol) (hlf : ll.length ≤ 1099511627776) (hsm : ∀ o ∈ ll, o.data.length ≤ 140737488351232) (hby : ∀ o ∈ ll, Byt o.data) (hn : -9223372036854775808 ≤ n ∧ n ≤ 9223372036854775807)
    (k : ∀ w1, Upd [] [] w w1 → R (.bool true) w1) : Ret Tryd.prog 68 [opSV kd e b u ud t so sd sl n] w R := by
  refine f68_of _ _ _ _ _ _ _ _ _ _ _ _ _ _ _ _ _ _ _ _ _ _ _ ?_
  unfold vc68
  intro b0 b1 w1 u1
  have n0 := u1.new (b := b0) (by simp)
  have n1 := u1.new (b := b1) (by simp)
  have h1 := h.old u1
  have hdl := h.dlen
  have hds := h.data.len
  have hos := h.opts.slen
  have hls := hl.slen
  have hod : ∀ o ∈ t.opts, o.data.length ≤ 140737488355328 := fun o ho => by have := h.small o ho; omega
  refine c32 h1.data (by omega) fun s w2 u2 hs ho => ⟨_, rfl, kp u2, ?_⟩
  have v2 := u1.then u2
  have h2 := h.old v2
  have hsl := hs.len
  rw [wid_len] at hsl
  have hcap := ho.le
  refine c95 h2.opts hfew h2.small fun m p om ws w3 u3 hm hmc hp hwc f1 f2 f3 f4 => ⟨_, _, rfl, kp u3, ?_⟩
  have hml := hm.slen
  rw [List.length_append, show ([⟨99, []⟩] : List Opt).length = 1 from rfl] at hml
  refine need (by simp; omega) (need (by simp; omega) fun w4 u4 => ?_)
  have v3 := v2.then u3
  have v4 := v3.step0 u4 (by simp; omega)
  have h4 := h.old v4
  have hl4 := hl.old v4
  have y2 := u2.size
  have bs := ho.blk
  have hs4 := (hs.old u3).upd u4 (fun x hx hm => by have := bs x hx; simp at hm; omega)
  have hm4 := hm.upd u4 (fun x hx hm => by have := f1 x hx; simp at hm; omega) (fun y hy x hx hm => by
    rcases List.mem_append.1 hy with q | q
    · have := f2 y q x hx; simp at hm; omega
    · rw [List.mem_singleton] at q; subst q; simp [Sl.blk] at hx)
  have hp4 := hp.upd u4 (fun x hx hm => by have := f3 x hx; simp at hm; omega) (fun g hg x hx hm => by have := f4 g hg x hx; simp at hm; omega)
  refine c95 hl4 hlf hsm fun m' p' om' ws' w5 u5 hm' hmc' hp' hwc' _ _ _ _ => ⟨_, _, rfl, kp u5, ?_⟩
  have v5 := v4.then u5
  have hml' := hm'.slen
  rw [List.length_append, show ([⟨99, []⟩] : List Opt).length = 1 from rfl] at hml'
  intro J hJ
  have hs5 := hs4.old u5
  have hm5 := hm4.old u5
  have hp5 := hp4.old u5
  have hoIn : ∀ w', Upd [] [] w5 w' → Opts w' (m.sub 2 0 (Int.toNat (so.len : Int)) m.cap) t.opts om := fun w' u' => opts_in (hm5.old u') (by omega) hmc
  have hdIn : ∀ w', Upd [] [] w5 w' → SeesB w' (s.sub 1 0 (Int.toNat (sd.len : Int)) s.cap) t.data := fun w' u' => by
    rw [show Int.toNat (sd.len : Int) = t.data.length by omega]
    exact wid_in (hs5.old u') hcap
  have fin : ∀ w', Upd [] [] w5 w' → J true w' := fun w' u' => by
    refine hJ _ _ ?_
    (repeat refine And.intro rfl ?_)
    have v' := v5.then u'
    refine brt rfl (c28T (hoIn w' u') (h.old v').opts h.fit.opts (by omega) (hdIn w' u') (h.old v').data h.fit.data fun w6 u6 => ⟨_, rfl, kp u6, brt rfl ?_⟩)
    have v6 := v'.then u6
    have t56 := u'.then u6
    refine c34T (hs5.old t56) (h.old v6).data hcap (by omega) h.fit.data ⟨_, rfl, kp (Upd.refl _), brt rfl ?_⟩
    refine c96 (h.old v6).opts (hm5.old t56) hmc (hp5.old t56) hwc hfew h.small h.fit.opts fun w7 u7 => ⟨_, rfl, kp u7, brt rfl ?_⟩
    have v7 := v6.then u7
    refine c96 (hl.old v7) (hm'.old (t56.then u7)) hmc' (hp'.old (t56.then u7)) hwc' hlf hsm hby fun w8 u8 => ⟨_, rfl, kp u8, k _ (v7.then u8)⟩
  have r5 : Upd [] [] w5 w5 := Upd.refl _
  refine bre (fun _ => ?_) (fun _ => bre (fun _ => ?_) (fun _ => bre (fun _ => ?_) (fun _ => bre (fun _ => ?_) (fun _ => bre (fun _ => ?_) (fun _ => ?_)))))
  · refine c29 (t := t) (hg.old v5) (hoIn _ r5) (by omega) hod (hdIn _ r5).len (by omega) fun w6 u6 => ⟨_, rfl, kp u6, fun w7 u7 => c20 ⟨_, rfl, kp (Upd.refl _), u7.forget, ?_⟩⟩
    have t57 := u6.then u7
    have h7 := h.old (v5.then t57)
    refine c60 h7.opts hfew hod hds (by omega) fun w8 u8 => ⟨_, rfl, kp u8, ?_⟩
    (repeat refine And.intro rfl ?_)
    rw [beq_self_eq_true]
    exact fin _ (t57.then u8)
  · refine c26 (e := e) (t := t) (hg.old v5) o h.fit (hoIn _ r5) (by omega) hod (hdIn _ r5) (by omega) fun r w6 u6 hr _ => ⟨_, _, rfl, kp u6, ?_⟩
    have h6 := h.old (v5.then u6)
    have bS := tcSerL_byt (e := e) h.fit
    refine c55 (e := e) o h.fit h6.opts hfew hod h6.data (by omega) fun r2 w7 u7 hr2 _ => ⟨_, _, rfl, kp u7, c20 ⟨_, rfl, kp (Upd.refl _), brt (by simp) (c30 (hr.old u7) hr2 bS bS ⟨_, rfl, kp (Upd.refl _), ?_⟩)⟩⟩
    (repeat refine And.intro rfl ?_)
    rw [decide_eq_true rfl]
    exact fin _ (u6.then u7)
  · refine need (by simp; omega) ?_
    have bP := putL9_byt hby
    refine c39 (hg.l.old v5) (opts_in hm' (by omega) hmc') (by omega) (fun o ho => by have := hsm o ho; omega) fun r w6 u6 hr _ => ⟨_, _, rfl, kp u6, ?_⟩
    refine c56 (hl.old (v5.then u6)) hlf (fun o ho => by have := hsm o ho; omega) fun r2 w7 u7 hr2 _ => ⟨_, _, rfl, kp u7, c20 ⟨_, rfl, kp (Upd.refl _), brt (by simp) (c30 (hr.old u7) hr2 bP bP ⟨_, rfl, kp (Upd.refl _), ?_⟩)⟩⟩
    (repeat refine And.intro rfl ?_)
    rw [decide_eq_true rfl]
    exact fin _ (u6.then u7)
  · refine c36 (t := t) (hoIn _ r5) h.fit.opts (by omega) fun w6 u6 => ⟨_, _, rfl, kp u6, ?_⟩
    refine c58 (t := t) (h.old (v5.then u6)).opts h.fit.opts (by omega) fun w7 u7 => ⟨_, _, rfl, kp u7, brt (by simp) ?_⟩
    (repeat refine And.intro rfl ?_)
    rw [beq_self_eq_true]
    exact fin _ (u6.then u7)
  · refine c35 (t := t) (hoIn _ r5) h.fit.opts (by omega) hod fun s6 o6 w6 u6 hs6 _ _ _ _ => ⟨_, _, _, _, _, _, _, _, _, rfl, kp u6, ?_⟩
    intro b7 w7 u7
    have t57 := u6.then u7
    have h7 := h.old (v5.then t57)
    refine c57 (t := t) h7.opts h.fit.opts (by omega) hod h7.data (by omega) hn fun s8 o8 d8 w8 u8 hs8 _ _ hd8 _ => ⟨_, _, _, _, _, _, _, _, _, rfl, kp u8, u7.forget.then u8, ?_⟩
    have t68 := u7.forget.then u8
    have hcb : ∀ o ∈ (clampT t n).opts, Byt o.data := fun o ho => by
      obtain ⟨x, hx, rfl⟩ := List.mem_map.1 ho
      exact clampO_byt (h.fit.opts x hx)
    have hcl : (clampT t n).opts.length = t.opts.length := by show (t.opts.map _).length = _; simp
    refine c28T (t := clampT t n) (hs6.old t68) hs8 hcb (by omega) (hdIn _ (t57.then u8)) hd8 h.fit.data fun w9 u9 => ⟨_, rfl, kp u9, ?_⟩
    (repeat refine And.intro rfl ?_)
    exact fin _ ((t57.then u8).then u9)
  · (repeat refine And.intro rfl ?_)
    exact fin _ r5
end
end Go.Vc.S9
