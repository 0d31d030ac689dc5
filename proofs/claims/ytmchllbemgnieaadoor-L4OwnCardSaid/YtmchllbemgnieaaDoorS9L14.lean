import Derived.Test.YtmchllbemgnieaaDoorS9Mark
import Derived.Test.YtmchllbemgnieaaDoorS9L13
open Go Go.Vc Go.Proofs Go.ChangeShapes Go.WideShapes Go.ChangeAt Go.RowKit
set_option linter.unusedVariables false
set_option linter.unusedSimpArgs false
set_option autoImplicit false
namespace Go.Vc.S9
section
variable {e : Ends} {w : World} {u : UdV} {t : TcV} {so sd d : Sl} {os : List (Int × Sl)}
/-- the lists of the options' data, each marked with its own mark -/
def AllM (W : Nat) (os : List (Int × Sl)) (w : World) (s : Sl) (gs : List Sl) : Prop :=
  ∀ j (h1 : j < gs.length) (h2 : j < os.length), ∃ lo hi, Marks lo hi (os[j]).2.blk w gs[j] (20 + ((j % 200 : Nat) : Int)) ∧ W ≤ lo ∧ hi ≤ w.heap.size ∧ ∀ x ∈ s.blk, x < lo ∨ hi ≤ x
theorem putL9_byt' {l : List Opt} (hb : ∀ o ∈ l, Byt o.data) : Byt (putL9 l) := by
  unfold putL9; split
  · exact putO_byt hb
  · intro x hx; simp at hx
set_option maxRecDepth 10000 in
theorem c14 {most : Int} (hg : Tabs w) (o : e.Ok) (hU : HandU w u d) (hT : HandT w t so sd os) : Ret Tryd.prog 14 [adr e.sv e.sa, adr e.dv e.da, udSV u d, tcSV t so sd, .int .i64 most] w fun r w1 => r = .bool true ∧ Upd [] [] w w1 := by
  refine f14_of _ _ _ _ _ _ _ _ _ _ _ _ _ _ _ _ _ _ _ _ ?_
  unfold vc14
  have hud := hU.dlen
  have htd := hT.dlen
  have hfew := hT.few
  have hob := hT.fit.opts
  have hod : ∀ o ∈ t.opts, o.data.length ≤ 140737488355328 := fun o ho => by have := hT.small o ho; omega
  intro b0 b1 b2 b3 w1 u1
  have n0 := u1.new (b := b0) (by simp)
  have n1 := u1.new (b := b1) (by simp)
  have n2 := u1.new (b := b2) (by simp)
  have n3 := u1.new (b := b3) (by simp)
  refine c18 (hg.old u1) fun w2 u2 => ⟨_, rfl, kp u2, ?_⟩
  have v2 := u1.then u2
  refine c37 (u := u) (hU.old v2).data (by omega) fun su w3 u3 hsu hosu => ⟨_, _, _, _, rfl, kp u3, ?_⟩
  have v3 := v2.then u3
  intro b6 w4 u4
  have n6 := u4.new (b := b6) (by simp)
  have v4 := v3.then u4
  have h4 := hT.old v4
  refine c38 (t := t) h4.opts (by omega) hod h4.data (by omega) fun s1 os1 d1 w5 u5 hs1 _ _ _ _ hd1 _ _ _ => ⟨_, _, _, _, _, _, _, _, _, rfl, kp u5, ?_⟩
  have v5 := v4.then u5
  intro b7 w6 u6
  have n7 := u6.new (b := b7) (by simp)
  have v6 := v5.then u6
  refine c19 (e := e) (hg.old v6) o hU.fit (hU.old v6).data fun a w7 u7 ha oa => ⟨_, _, rfl, kp u7, ?_⟩
  have v7 := v6.then u7
  refine c26H (e := e) (hg.old v7) o (hT.old v7) fun b w8 u8 hb ob => ⟨_, _, rfl, kp u8, ?_⟩
  have v8 := v7.then u8
  refine c39 (hg.l.old v8) (hT.old v8).opts (by omega) hod fun c w9 u9 hc oc => ⟨_, _, rfl, kp u9, ?_⟩
  have v9 := v8.then u9
  refine c35 (t := t) (hT.old v9).opts hob (by omega) hod fun s6 ok w10 u10 hk ok6 owk hpw hof => ⟨_, _, _, _, _, _, _, _, _, rfl, kp u10, ?_⟩
  have v10 := v9.then u10
  intro b8 w11 u11
  have n8 := u11.new (b := b8) (by simp)
  have v11 := v10.then u11
  have la := udSerL_len e u
  have lb := tcSerL_len e t
  have lc := putL9_len t.opts
  have hcb : ∀ o ∈ (clampT t most).opts, Byt o.data := fun o ho => by
    obtain ⟨x, hx, rfl⟩ := List.mem_map.1 ho
    exact clampO_byt (hob x hx)
  have hcl : (clampT t most).opts.length = t.opts.length := by show (t.opts.map _).length = _; simp
  have hcd : ∀ o ∈ (clampT t most).opts, o.data.length ≤ 140737488351232 := fun o ho => by
    obtain ⟨x, hx, rfl⟩ := List.mem_map.1 ho
    rw [clampO_len.1]; exact hT.small x hx
  have y1 := u1.size; have y2 := u2.size; have y3 := u3.size; have y4 := u4.size; have y5 := u5.size; have y6 := u6.size; have y7 := u7.size; have y8 := u8.size; have y9 := u9.size; have y10 := u10.size; have y11 := u11.size
  have ba := oa.blk; have bb := ob.blk; have bc := oc.blk
  have bk : ∀ x ∈ ok, ∀ z ∈ x.2.blk, w9.heap.size ≤ z ∧ z < w10.heap.size := fun x hx z hz => (owk x hx).blk z hz
  have bs6 := ok6.blk
  refine c40 ((((ha.old u8).old u9).old u10).old u11) (by omega) fun ta w12 u12 hta ota => ⟨_, rfl, kp u12, ?_⟩
  refine c40 ((((hb.old u9).old u10).old u11).old u12) (by omega) fun tb w13 u13 htb otb => ⟨_, rfl, kp u13, ?_⟩
  have t1013 := (u11.forget.then u12).then u13
  refine c40 ((hc.old u10).old t1013) (by omega) fun tc w14 u14 htc otc => ⟨_, rfl, kp u14, ?_⟩
  have t1014 := t1013.then u14
  have v14 := v10.then t1014
  refine c38 (t := clampT t most) (hk.old t1014) (by omega) (fun o ho => by have := hcd o ho; omega) (hT.old v14).data (by show t.data.length ≤ _; omega) fun s11 os11 d12 w15 u15 hs11 o11 oo11 _ _ hd12 od12 _ _ => ⟨_, _, _, _, _, _, _, _, _, rfl, kp u15, ?_⟩
  intro b9 w16 u16
  have n9 := u16.new (b := b9) (by simp)
  have v16 := (v14.then u15).then u16
  have t1016 := (t1014.then u15).then u16
  have y12 := u12.size; have y13 := u13.size; have y14 := u14.size; have y15 := u15.size; have y16 := u16.size
  -- the boxes lie apart from all that is written
  have boxes : ∀ x ∈ [b0, b1, b2, b3, b6, b7, b8, b9], x < w16.heap.size ∧ (x < w6.heap.size ∨ w10.heap.size ≤ x) := by
    intro x hx
    simp at hx
    omega
  have kpX : ∀ {wA wB : World} {m : List Nat}, Upd m [] wA wB → w16.heap.size ≤ wA.heap.size → (∀ z ∈ m, w6.heap.size ≤ z ∧ (z < w10.heap.size ∨ w16.heap.size ≤ z)) → Keeps [b0, b1, b2, b3, b6, b7, b8, b9] wA wB := fun uu hz hm => kpm uu (fun x hx => by have := (boxes x hx).1; omega) (fun x hx hmem => by have := boxes x hx; have := hm x hmem; omega)
  refine c41 (((((ha.old u8).old u9).old u10)).old t1016) ((((oa.old u8).old u9).old u10).old t1016) (by omega) (by omega) fun m1 w17 u17 hm1 => ⟨_, rfl, kpX u17 (Nat.le_refl _) (fun z hz => by have := ba z hz; omega), ?_⟩
  have y17 := u17.size
  have dab : ∀ x ∈ b.blk, x ∉ a.blk := fun x hx hm => by have := bb x hx; have := ba x hm; omega
  have dac : ∀ x ∈ c.blk, x ∉ a.blk := fun x hx hm => by have := bc x hx; have := ba x hm; omega
  have dbc : ∀ x ∈ c.blk, x ∉ b.blk := fun x hx hm => by have := bc x hx; have := bb x hm; omega
  refine c41 ((((hb.old u9).old u10).old t1016).upd u17 dab) ((((ob.old u9).old u10).old t1016).upd u17 dab) (by omega) (by omega) fun m2 w18 u18 hm2 => ⟨_, rfl, kpX u18 (by omega) (fun z hz => by have := bb z hz; omega), ?_⟩
  have y18 := u18.size
  refine c41 ((((hc.old u10).old t1016).upd u17 dac).upd u18 dbc) ((((oc.old u10).old t1016).upd u17 dac).upd u18 dbc) (by omega) (by omega) fun m3 w19 u19 hm3 => ⟨_, rfl, kpX u19 (by omega) (fun z hz => by have := bc z hz; omega), ?_⟩
  have y19 := u19.size
  generalize hM : a.blk ++ (b.blk ++ (c.blk ++ ok.flatMap (fun x => x.2.blk))) = M at *
  have Mr : ∀ z ∈ M, w6.heap.size ≤ z ∧ z < w10.heap.size := by
    rw [← hM]
    intro z hz
    rcases List.mem_append.1 hz with q | q
    · have := ba z q; omega
    rcases List.mem_append.1 q with q | q
    · have := bb z q; omega
    rcases List.mem_append.1 q with q | q
    · have := bc z q; omega
    · obtain ⟨x, hx, hz⟩ := List.mem_flatMap.1 q
      have := bk x hx z hz; omega
  have Ma : ∀ z ∈ a.blk, z ∈ M := fun z hz => by rw [← hM]; simp [hz]
  have Mb : ∀ z ∈ b.blk, z ∈ M := fun z hz => by rw [← hM]; simp [hz]
  have Mc : ∀ z ∈ c.blk, z ∈ M := fun z hz => by rw [← hM]; simp [hz]
  have Mk' : ∀ x ∈ ok, ∀ z ∈ x.2.blk, z ∈ M := fun x hx z hz => by
    rw [← hM]
    exact List.mem_append_right _ (List.mem_append_right _ (List.mem_append_right _ (List.mem_flatMap.2 ⟨x, hx, hz⟩)))
  have U19 : Upd M [] w16 w19 := ((u17.wide Ma).step u18 (fun x hx => .inr (Mb x hx))).step u19 (fun x hx => .inr (Mc x hx))
  have M6 : ∀ z ∈ s6.blk, z ∉ M := fun z hz hm => by
    rw [← hM] at hm
    have h6 := bs6 z hz
    rcases List.mem_append.1 hm with q | q
    · have := ba z q; omega
    rcases List.mem_append.1 q with q | q
    · have := bb z q; omega
    rcases List.mem_append.1 q with q | q
    · have := bc z q; omega
    · obtain ⟨x, hx, hz2⟩ := List.mem_flatMap.1 q
      exact hof x hx z hz2 hz
  have hm1a := (hm1.upd u18 (fun x hx => ⟨fun hm => by have := bb x hx; have := ba x hm; omega, by have := bb x hx; omega⟩)).upd u19 (fun x hx => ⟨fun hm => by have := bc x hx; have := ba x hm; omega, by have := bc x hx; omega⟩)
  have hm2a := hm2.upd u19 (fun x hx => ⟨fun hm => by have := bc x hx; have := bb x hm; omega, by have := bc x hx; omega⟩)
  have hk16 := hk.old t1016
  have hkl := hk.len
  have hsl := hk.slen
  -- the options' data, one behind the other
  refine ⟨fun s i w' => ∃ (q : Nat) (gs : List Sl), i = q ∧ q ≤ ok.length ∧ Upd M [] w16 w' ∧ w19.heap.size ≤ w'.heap.size ∧ Sees cSl w' s gs ∧ Own w19.heap.size 1 w' s ∧ gs.length = q ∧ AllM w19.heap.size ok w' s gs ∧
      (∀ j (h2 : j < ok.length) (h3 : j < (clampT t most).opts.length), q ≤ j → SeesB w' (ok[j]).2 ((clampT t most).opts[j]).data ∧ Own w9.heap.size 1 w' (ok[j]).2) ∧ Marks w16.heap.size w17.heap.size a.blk w' m1 11 ∧ Marks w17.heap.size w18.heap.size b.blk w' m2 12 ∧ Marks w18.heap.size w19.heap.size c.blk w' m3 13,
    fun _ i _ => (ok.length - i).toNat, ⟨0, [], rfl, by omega, U19, Nat.le_refl _, Sees.nil _ _ _ _, Own.none _ _ _, rfl, fun j h1 => absurd h1 (by simp), fun j h2 h3 _ => ?_, hm1a, hm2a, hm3⟩, ?_⟩
  · have dk : ∀ z ∈ (ok[j]).2.blk, z ∉ a.blk ∧ z ∉ b.blk ∧ z ∉ c.blk := fun z hz => by
      have := bk _ (List.getElem_mem h2) z hz
      exact ⟨fun hm => by have := ba z hm; omega, fun hm => by have := bb z hm; omega, fun hm => by have := bc z hm; omega⟩
    have g1 := (((hk16.each j h3).upd u17 (fun z hz => (dk z hz).1)).upd u18 (fun z hz => (dk z hz).2.1)).upd u19 (fun z hz => (dk z hz).2.2)
    have g2 := ((((owk _ (List.getElem_mem h2)).old t1016).upd u17 (fun z hz => (dk z hz).1)).upd u18 (fun z hz => (dk z hz).2.1)).upd u19 (fun z hz => (dk z hz).2.2)
    exact ⟨g1, g2⟩
  rintro s i w20 ⟨q, gs, rfl, hq, U20, y20, hsg, osg, hgl, hAll, hrest, hM1, hM2, hM3⟩
  have hrow := hk16.row.upd U20 M6
  have bsg := osg.blk
  have hrl := hrow.len
  refine brd (fun hlt => ?_) (fun hge => ?_)
  · have hq2 : q < ok.length := by omega
    have hq3 : q < (clampT t most).opts.length := by omega
    have he := hrow.elem hq2 1 (by simp [cOpt])
    rw [show cOpt.sz = 2 from rfl] at he
    obtain ⟨r1, r2⟩ := hrest q hq2 hq3 (Nat.le_refl _)
    have hdq := hcd _ (List.getElem_mem hq3)
    have bq := bk _ (List.getElem_mem hq2)
    refine needIx (by omega) (by omega) (h2 := hrow.isSome (by decide) (by omega)) ⟨(ok[q]).2, (by rw [Int.toNat_natCast]; exact he), ?_⟩
    have em : wr .u8 (wr .i64 (20 + Int.tmod (q : Int) 200)) = 20 + ((q % 200 : Nat) : Int) := by
      rw [tmod_pos (by omega), wr_i64 (by omega) (by omega), wr_u8]; omega
    rw [em]
    refine c41 r1 r2 (by omega) (by omega) fun g w21 u21 hmg => ⟨_, rfl, kpX u21 (by omega) (fun z hz => by have := bq z hz; omega), ?_⟩
    have y21 := u21.size
    intro b10 w22 u22 hr22
    have y22 := u22.size
    have dsq : ∀ x ∈ s.blk, x ∉ (ok[q]).2.blk := fun x hx hm => by have := (bsg x hx).1; have := bq x hm; omega
    have hsg2 := (hsg.upd u21 dsq).old u22
    have osg2 := (osg.upd u21 dsq).old u22
    refine append_own (c := cSl) (new := [g]) hsg2 osg2 (sees_row hr22 [g] rfl rfl) (by omega) (fun x hx hm => by have := (bsg x hx).1; have := boxes x hm; omega) (by decide) (by simp; omega) fun s' w23 hs23 os23 u23 hn23 => ?_
    have y23 := u23.size
    have U23 : Upd M [] w16 w23 := ((U20.step u21 (fun x hx => .inr (Mk' _ (List.getElem_mem hq2) x hx))).step u22 (by simp)).step u23 (fun x hx => .inl (by have := (bsg x hx).1; omega))
    -- what was marked stays so
    have keepM : ∀ {lo hi : Nat} {bbx : List Nat} {gx : Sl} {m : Int}, Marks lo hi bbx w20 gx m → (∀ z ∈ bbx, z < w19.heap.size ∧ z ∉ (ok[q]).2.blk) → w10.heap.size ≤ lo → hi ≤ w20.heap.size → (∀ x ∈ s.blk, x < lo ∨ hi ≤ x) → Marks lo hi bbx w23 gx m := by
      intro lo hi bbx gx m hm hbx hlo hhi hsx
      refine ((hm.upd u21 (fun x hx => ⟨fun hmem => (hbx x hmem).2 hx, fun hh => by have := bq x hx; omega⟩)).old u22).upd u23 (fun x hx => ⟨fun hmem => ?_, fun hh => ?_⟩)
      · have := (hbx x hmem).1; have := (bsg x hx).1; omega
      · have := hsx x hx; omega
    have ns' : ∀ x ∈ s'.blk, x ∈ s.blk ∨ w22.heap.size ≤ x := hn23
    (repeat refine And.intro rfl ?_)
    refine ⟨⟨q + 1, gs ++ [g], wr_succ (by omega), by omega, U23, by omega, hs23, os23, by simp; omega, ?_, ?_, ?_, ?_, ?_⟩, by rw [wr_succ (q := q) (by omega)]; (try dsimp only); omega⟩
    · intro j h1 h2
      by_cases e1 : j < gs.length
      · obtain ⟨lo, hi, g1, g2, g3, g4⟩ := hAll j e1 h2
        rw [List.getElem_append_left e1]
        refine ⟨lo, hi, keepM g1 (fun z hz => ⟨by have := bk _ (List.getElem_mem h2) z hz; omega, fun hm => ?_⟩) (by omega) g3 g4, g2, by omega, fun x hx => ?_⟩
        · exact List.pairwise_iff_getElem.1 hpw j q h2 hq2 (by omega) z hz hm
        · rcases ns' x hx with h' | h'
          · exact g4 x h'
          · omega
      · have e2 : j = q := by simp at h1; omega
        subst e2
        rw [List.getElem_append_right (by omega)]
        simp only [hgl, Nat.sub_self, List.getElem_cons_zero]
        refine ⟨w20.heap.size, w21.heap.size, (hmg.old u22).upd u23 (fun x hx => ⟨fun hm => ?_, fun hh => ?_⟩), by omega, by omega, fun x hx => ?_⟩
        · have := (bsg x hx).1; have := bq x hm; omega
        · have := (bsg x hx).2; omega
        · rcases ns' x hx with h' | h'
          · have := (bsg x h').2; omega
          · omega
    · intro j h2 h3 hj
      obtain ⟨g1, g2⟩ := hrest j h2 h3 (by omega)
      have d1' : ∀ z ∈ (ok[j]).2.blk, z ∉ (ok[q]).2.blk := fun z hz hm => List.pairwise_iff_getElem.1 hpw q j hq2 h2 (by omega) z hm hz
      have d2' : ∀ z ∈ (ok[j]).2.blk, z ∉ s.blk := fun z hz hm => by have := bk _ (List.getElem_mem h2) z hz; have := (bsg z hm).1; omega
      exact ⟨((g1.upd u21 d1').old u22).upd u23 d2', ((g2.upd u21 d1').old u22).upd u23 d2'⟩
    · exact keepM hM1 (fun z hz => ⟨by have := ba z hz; omega, fun hm => by have := ba z hz; have := bq z hm; omega⟩) (by omega) (by omega) (fun x hx => by have := (bsg x hx).1; omega)
    · exact keepM hM2 (fun z hz => ⟨by have := bb z hz; omega, fun hm => by have := bb z hz; have := bq z hm; omega⟩) (by omega) (by omega) (fun x hx => by have := (bsg x hx).1; omega)
    · exact keepM hM3 (fun z hz => ⟨by have := bc z hz; omega, fun hm => by have := bc z hz; have := bq z hm; omega⟩) (by omega) (by omega) (fun x hx => by have := (bsg x hx).1; omega)
  -- all is looked at again
  have hql : q = ok.length := by omega
  intro J hJ
  have T520 : Upd [] [] w5 w20 := ((u6.forget.then u7).then (((u8.then u9).then u10).then t1016)).step0 U20 (fun x hx => by have := Mr x hx; omega)
  have V20 : Upd [] [] w w20 := v16.step0 U20 (fun x hx => by have := Mr x hx; omega)
  have T320 : Upd [] [] w3 w20 := (u4.forget.then u5).then T520
  refine brf rfl ?_
  refine c23T (hU.old V20).data (hsu.old T320) hU.fit.data fun w21 u21 => ⟨_, rfl, kp u21, brf rfl ?_⟩
  have V21 := V20.then u21
  refine c28T (hT.old V21).opts (hs1.old (T520.then u21)) hob (by omega) (hT.old V21).data (hd1.old (T520.then u21)) hT.fit.data fun w22 u22 => ⟨_, rfl, kp u22, brf rfl ?_⟩
  have V22 := V21.then u22
  (repeat refine And.intro rfl ?_)
  refine hJ _ ?_
  clear hJ
  refine c19 (e := e) (hg.old V22) o hU.fit (hU.old V22).data fun a2 w23 u23 ha2 _ => ⟨_, _, rfl, kp u23, ?_⟩
  have V23 := V22.then u23
  refine c26H (e := e) (hg.old V23) o (hT.old V23) fun b2' w24 u24 hb2' _ => ⟨_, _, rfl, kp u24, ?_⟩
  have V24 := V23.then u24
  refine c39 (hg.l.old V24) (hT.old V24).opts (by omega) hod fun c2 w25 u25 hc2 _ => ⟨_, _, rfl, kp u25, ?_⟩
  have V25 := V24.then u25
  refine c35 (t := t) (hT.old V25).opts hob (by omega) hod fun s20 ok20 w26 u26 hk20 _ _ _ _ => ⟨_, _, _, _, _, _, _, _, _, rfl, kp u26, ?_⟩
  have V26 := V25.then u26
  intro b10 J hJ w27 u27
  have T2027 := ((((((u21.then u22).then u23).then u24).then u25).then u26).then u27)
  have U27 : Upd M [] w16 w27 := U20.step T2027 (by simp)
  have cp : ∀ {s : Sl} {l : List Int}, SeesB w16 s l → (∀ z ∈ s.blk, w10.heap.size ≤ z) → SeesB w27 s l := fun h' hb' => h'.upd U27 (fun z hz hm => by have := hb' z hz; have := Mr z hm; omega)
  have bS := udSerL_byt (e := e) hU.fit
  have bT := tcSerL_byt (e := e) hT.fit
  have bP := putL9_byt' hob
  have c12' := cp ((((hta.old u13).old u14).old u15).old u16) (fun z hz => by have := (ota.blk z hz).1; omega)
  have c13' := cp (((htb.old u14).old u15).old u16) (fun z hz => by have := (otb.blk z hz).1; omega)
  have c14' := cp ((htc.old u15).old u16) (fun z hz => by have := (otc.blk z hz).1; omega)
  have cd' := cp (hd12.old u16) (fun z hz => by have := (od12.blk z hz).1; omega)
  have co' : Opts w27 s11 (clampT t most).opts os11 := (hs11.old u16).upd U27 (fun z hz hm => by have := (o11.blk z hz).1; have := Mr z hm; omega) (fun x hx z hz hm => by have := ((oo11 x hx).blk z hz).1; have := Mr z hm; omega)
  refine c30 ((((ha2.old u24).old u25).old u26).old u27) c12' bS bS ⟨_, rfl, kp (Upd.refl _), brf (by simp) ?_⟩
  refine c30 (((hb2'.old u25).old u26).old u27) c13' bT bT ⟨_, rfl, kp (Upd.refl _), brf (by simp) ?_⟩
  refine c30 ((hc2.old u26).old u27) c14' bP bP ⟨_, rfl, kp (Upd.refl _), brf (by simp) ?_⟩
  have V27 := V26.then u27
  refine c28T (t := clampT t most) (hk20.old u27) co' hcb (by omega) (hT.old V27).data cd' hT.fit.data fun w28 u28 => ⟨_, rfl, kp u28, brf rfl ?_⟩
  have V28 := V27.then u28
  have T2028 := T2027.then u28
  (repeat refine And.intro rfl ?_)
  refine hJ _ ?_
  clear hJ
  have hsg28 := hsg.old T2028
  have hsgl := hsg28.len
  refine ⟨fun i w' => Upd [] [] w28 w' ∧ ∃ q' : Nat, i = q' ∧ q' ≤ gs.length, fun i _ => (gs.length - i).toNat, ⟨Upd.refl _, 0, rfl, by omega⟩, ?_⟩
  rintro i w29 ⟨u29, q', rfl, hq'⟩
  have T2029 := T2028.then u29
  have hsg29 := hsg28.old u29
  refine brd (fun hlt => ?_) (fun hge => ?_)
  · have hq2 : q' < gs.length := by omega
    have hq3 : q' < ok.length := by omega
    have he := hsg29.elem hq2 0 (by simp [cSl])
    rw [add_zero] at he
    have em : wr .u8 (wr .i64 (20 + Int.tmod (q' : Int) 200)) = 20 + ((q' % 200 : Nat) : Int) := by
      rw [tmod_pos (by omega), wr_i64 (by omega) (by omega), wr_u8]; omega
    obtain ⟨lo, hi, g1, _, _, _⟩ := hAll q' hq2 hq3
    refine needIx (by omega) (by omega) (h2 := hsg29.isSome (by decide) (by omega)) ⟨gs[q'], (by rw [Int.toNat_natCast]; exact he), ?_⟩
    rw [em]
    refine c42 (g1.old T2029) ⟨_, rfl, kp (Upd.refl _), brf rfl ?_⟩
    (repeat refine And.intro rfl ?_)
    exact ⟨⟨u29, q' + 1, wr_succ (by omega), by omega⟩, by rw [wr_succ (q := q') (by omega)]; (try dsimp only); omega⟩
  · refine c42 (hM1.old T2029) ⟨_, rfl, kp (Upd.refl _), brt rfl (c42 (hM2.old T2029) ⟨_, rfl, kp (Upd.refl _), brt rfl (c42 (hM3.old T2029) ⟨_, rfl, kp (Upd.refl _), rfl, V28.then u29⟩)⟩)⟩
end
section
variable {H : Type} {W : World}
theorem walk14 (hg : Tabs W) (svs : List SV) (ds : List (DataW H)) (h : ArgsD X W [27, 27, 30, 45, 3] svs ds) (hw : (DataW.weightsEach Tryd.prog [27, 27, 30, 45, 3] ds).all (· ≤ reachBytes) = true) :
    Ret Tryd.prog 14 svs W fun r w1 => r = .bool true ∧ Upd [] [] W w1 := by
  obtain ⟨x, _, d1, _, m1, rfl, rfl, h1, h⟩ := argsD_cons h
  obtain ⟨y, _, d2, _, m2, rfl, rfl, h2, h⟩ := argsD_cons h
  obtain ⟨z, _, d3, _, m3, rfl, rfl, h3, h⟩ := argsD_cons h
  obtain ⟨z', _, d4, _, m4, rfl, rfl, h4, h⟩ := argsD_cons h
  obtain ⟨z'', _, d5, _, m5, rfl, rfl, h5, h⟩ := argsD_cons h
  obtain ⟨rfl, rfl⟩ := argsD_nil h
  obtain ⟨sv, sa, rfl, hsa⟩ := deep_adr h1
  obtain ⟨dv, da, rfl, hda⟩ := deep_adr h2
  obtain ⟨u, du, _, _, _, ddu, rfl, hdu, hfu, hcu, rfl, hslu⟩ := deep_udp h3
  obtain ⟨t, so, sd, os, _, _, _, _, _, _, _, do_, dd, rfl, ho, hd, hf, hc, hc2, hc3, rfl, hdo, hsl⟩ := deep_tcp h4
  obtain ⟨n, rfl, hn⟩ := deep_int (t := 3) rfl h5
  have g := (light_head (light_head (light_arg hw)).2).2
  have hHu := handU_of hdu hfu hcu hslu (light_head g).1
  have hH := handT_of ho hd hf hc hc2 hc3 hdo hsl (light_head (light_head g).2).1
  exact c14 (e := ⟨sv, sa, dv, da⟩) hg ⟨hsa, hda⟩ hHu hH
end
end Go.Vc.S9
