import Derived.Test.YtopobapmncbjhaaS5Ap
import Derived.Test.YtopobapmncbjhaaS5H
import Derived.Test.YtopobapmncbjhaaS5Arp
import Derived.Test.YtopobapmncbjhaaLot
import Derived.Test.YtopobapmncbjhaaS5TxtH
import Derived.Test.YtopobapmncbjhaaS5W
import Derived.Test.YtopobapmncbjhaaRows
section
open Go Go.Vc Go.Proofs
set_option linter.unusedVariables false
set_option linter.unusedSimpArgs false
set_option autoImplicit false
namespace Go.Vc.S5

/-- as Lot.app; and where the new list lies -/
theorem lot_app {N M b e e' : Nat} {w : World} {L : Sl} {ls nl : List (List Int)} {gs ns : List Sl} {bs : List Nat} {F : Sl → World → Prop} {cs : List Value} {k0 : Nat} (h : Lot N w L ls gs)
    (hrow : w.heap[b]? = some (.cells cs.toArray e (0, 0))) (hcs : cs = cSl.cells ns) (hk0 : k0 = ns.length) (hns : AllB w ns nl) (hown : ∀ x ∈ ns, Own M 1 w x) (hd : ns.Pairwise Apt) (hg : ∀ x ∈ gs, ∀ b ∈ x.blk, b < M) (hL : ∀ b ∈ L.blk, b < M) (hNM : N ≤ M)
    (hNw : N ≤ w.heap.size) (hb : (gs.length + ns.length) * 24 ≤ 140737488355328) (hbs : ∀ x ∈ L.blk, x ∉ bs)
    (k : ∀ r w1, Lot N w1 r (ls ++ nl) (gs ++ ns) → Upd L.blk [] w w1 → (∀ b ∈ r.blk, b ∈ L.blk ∨ w.heap.size ≤ b) → F r w1) : Append e' 1 24 L ⟨some ⟨b, 0, none⟩, k0, k0⟩ bs w F := by
  subst hcs hk0
  refine append_own (c := cSl) (new := ns) h.parts.row h.own (sees_row hrow _ rfl rfl) hNw hbs (by decide) hb fun r w1 hr ho u hnew => ?_
  have hlen := hns.len
  have hgl := h.parts.len
  have dg : ∀ x ∈ gs, ∀ b ∈ x.blk, b ∉ L.blk := h.off
  have dn : ∀ x ∈ ns, ∀ b ∈ x.blk, b ∉ L.blk := fun x hx b hb hm => by have := ((hown x hx).blk b hb).1; have := hL b hm; omega
  refine k r w1 ⟨⟨hr, by simp [hgl, hlen], fun i hi => ?_⟩, ho, ?_, ?_, ?_⟩ u hnew
  · by_cases hi2 : i < ls.length
    · rw [List.getElem_append_left (by rw [hgl]; exact hi2), List.getElem_append_left hi2]
      exact (h.parts.each i hi2).upd u (dg _ (List.getElem_mem _))
    · rw [List.getElem_append_right (by rw [hgl]; omega), List.getElem_append_right (by omega)]
      have := hns.get (i - ls.length) (by simp at hi; omega)
      simp only [hgl]
      exact this.upd u (dn _ (List.getElem_mem _))
  · intro x hx
    rcases List.mem_append.1 hx with hx | hx
    · exact (h.owns x hx).upd u (dg x hx)
    · exact ((hown x hx).upd u (dn x hx)).mono hNM
  · rw [List.pairwise_append]
    refine ⟨h.dis, hd, fun x hx y hy b hb hm => ?_⟩
    have := hg x hx b hb
    have := ((hown y hy).blk b hm).1
    omega
  · intro x hx b hb hm
    rcases List.mem_append.1 hx with hx | hx
    · rcases hnew b hm with h1 | h1
      · exact dg x hx b hb h1
      · have := ((h.owns x hx).blk b hb).2; omega
    · rcases hnew b hm with h1 | h1
      · exact dn x hx b hb h1
      · have := ((hown x hx).blk b hb).2; omega

/-- a list of lists of tags, each in an array of its own -/
structure TL (N : Nat) (w : World) (T : Sl) (tg : List Sl) (p : List Tag) : Prop where
  row : Sees cSl w T tg
  own : Own N 1 w T
  each : ∀ x ∈ tg, Sees cTag w x p
  owns : ∀ x ∈ tg, Own N 4 w x
  dis : tg.Pairwise Apt
  off : ∀ x ∈ tg, Apt x T
theorem TL.nil (N : Nat) (w : World) (p : List Tag) : TL N w nilS [] p := ⟨Sees.nil _ _ _ _, Own.none _ _ _, by simp, by simp, by simp, by simp⟩
theorem TL.upd {N : Nat} {w w1 : World} {T : Sl} {tg : List Sl} {p : List Tag} {m n : List Nat} (h : TL N w T tg p) (u : Upd m n w w1) (h1 : ∀ b ∈ T.blk, b ∉ m) (h2 : ∀ x ∈ tg, ∀ b ∈ x.blk, b ∉ m) : TL N w1 T tg p :=
  ⟨h.row.upd u h1, h.own.upd u h1, fun x hx => (h.each x hx).upd u (h2 x hx), fun x hx => (h.owns x hx).upd u (h2 x hx), h.dis, h.off⟩
theorem TL.old {N : Nat} {w w1 : World} {T : Sl} {tg : List Sl} {p : List Tag} {n : List Nat} (h : TL N w T tg p) (u : Upd [] n w w1) : TL N w1 T tg p := h.upd u (by simp) (by simp)
theorem TL.app {N M b e e' : Nat} {w : World} {T x : Sl} {tg : List Sl} {p : List Tag} {bs : List Nat} {F : Sl → World → Prop} {cs : List Value} (h : TL N w T tg p)
    (hrow : w.heap[b]? = some (.cells cs.toArray e (0, 0))) (hcs : cs = cSl.cells [x]) (hx : Sees cTag w x p) (ox : Own M 4 w x) (hg : ∀ y ∈ tg, ∀ b ∈ y.blk, b < M) (hT : ∀ b ∈ T.blk, b < M) (hNM : N ≤ M)
    (hNw : N ≤ w.heap.size) (hb : tg.length ≤ 1000) (hbs : ∀ y ∈ T.blk, y ∉ bs)
    (k : ∀ r w1, TL N w1 r (tg ++ [x]) p → Upd T.blk [] w w1 → (∀ b ∈ r.blk, b ∈ T.blk ∨ w.heap.size ≤ b) → F r w1) : Append e' 1 24 T ⟨some ⟨b, 0, none⟩, 1, 1⟩ bs w F := by
  subst hcs
  refine append_own (c := cSl) (new := [x]) h.row h.own (sees_row hrow _ rfl rfl) hNw hbs (by decide) (by simp; omega) fun r w1 hr ho u hnew => ?_
  have dn : ∀ b ∈ x.blk, b ∉ T.blk := fun b hb hm => by have := (ox.blk b hb).1; have := hT b hm; omega
  refine k r w1 ⟨hr, ho, fun y hy => ?_, fun y hy => ?_, ?_, fun y hy b hb hm => ?_⟩ u hnew
  · rcases List.mem_append.1 hy with hy | hy
    · exact (h.each y hy).upd u (h.off y hy)
    · obtain rfl := List.mem_singleton.1 hy; exact hx.upd u dn
  · rcases List.mem_append.1 hy with hy | hy
    · exact (h.owns y hy).upd u (h.off y hy)
    · obtain rfl := List.mem_singleton.1 hy; exact (ox.upd u dn).mono hNM
  · rw [List.pairwise_append]
    refine ⟨h.dis, by simp, fun y hy z hz b hb hm => ?_⟩
    obtain rfl := List.mem_singleton.1 hz
    have := hg y hy b hb
    have := (ox.blk b hm).1
    omega
  · rcases List.mem_append.1 hy with hy | hy
    · rcases hnew b hm with h1 | h1
      · exact h.off y hy b hb h1
      · have := ((h.owns y hy).blk b hb).2; omega
    · obtain rfl := List.mem_singleton.1 hy
      rcases hnew b hm with h1 | h1
      · exact dn b hb h1
      · have := (ox.blk b hb).2; omega
theorem lot_upd {N : Nat} {w w1 : World} {L : Sl} {ls : List (List Int)} {gs : List Sl} {m n : List Nat} (h : Lot N w L ls gs) (u : Upd m n w w1) (h1 : ∀ b ∈ L.blk, b ∉ m) (h2 : ∀ x ∈ gs, ∀ b ∈ x.blk, b ∉ m) : Lot N w1 L ls gs :=
  ⟨h.parts.upd u h1 h2, h.own.upd u h1, fun x hx => (h.owns x hx).upd u (h2 x hx), h.dis, h.off⟩
end Go.Vc.S5
end

section
open Go Go.Vc Go.Proofs
set_option linter.unusedVariables false
set_option linter.unusedSimpArgs false
set_option autoImplicit false
namespace Go.Vc.S5

abbrev mk (j : Nat) : Tag := ⟨wr .i64 (-1 - (j : Int)), 0, false, 0⟩
theorem rep_addT (n m : Nat) (v : Tag) : List.replicate n v ++ List.replicate m v = List.replicate (n + m) v := List.replicate_append_replicate
theorem flat_bound {ls : List (List Int)} {B : Nat} (h : ∀ l ∈ ls, l.length ≤ B) : ls.flatten.length ≤ B * ls.length := by
  induction ls with
  | nil => simp
  | cons x r ih =>
    have h1 := h x (by simp)
    have h2 := ih (fun l hl => h l (by simp [hl]))
    simp only [List.flatten_cons, List.length_append, List.length_cons, Nat.mul_add, Nat.mul_one]
    omega

set_option maxRecDepth 10000 in
theorem c10 {b : Sl} {l : List Int} {dst src : Nat → Int} {ts ds : Sl} {tags : List Tag} {type : Int} {data : List Int} {op v1 v2 : Int} {sm a1 tm a2 : Nat → Int} {w : World} (h : SeesB w b l) (hb : Byt l) (hc : b.len ≤ b.cap)
    (hg : ∀ i, i < 6 → 0 ≤ src i ∧ src i < 256) (hts : Sees cTag w ts tags) (hd : SeesB w ds data) (hdc : ds.len ≤ ds.cap) (htl : tags.length ≤ 4398046511000) (hm : 0 ≤ sm 0 ∧ sm 0 < 256) :
    Ret Try.prog 10 [.slice b, frSV dst src ts type ds, arpSV op sm v1 a1 tm v2 a2] w fun r w1 => r = .bool true ∧ Upd [] [] w w1 := by
  refine f10_of _ _ _ _ _ _ _ _ _ _ _ _ _ _ _ ?_
  unfold vc10
  intro b1 b2 w1 u1
  have hb1 := u1.new (b := b1) (by simp)
  have hb2 := u1.new (b := b2) (by simp)
  refine c25 fun w2 u2 => ⟨_, rfl, kp u2, brf rfl ?_⟩
  refine c29 ((hts.old u1).old u2) ((hd.old u1).old u2) hdc (by omega) fun s d w3 u3 hs ho hD hdo => ⟨_, _, _, _, _, rfl, kp u3, ?_⟩
  intro w4 u4
  have y2 := u2.size
  have y3 := u3.size
  have y4 := u4.size
  have v4 := ((u1.then u2).then u3).step0 u4 (by simp; omega)
  have hs := hs.upd u4 (fun x hx hm => by have := ho.blk x hx; simp at hm; omega)
  have hD := hD.upd u4 (fun x hx hm => by have := hdo.blk x hx; simp at hm; omega)
  have hcl := cut_len data
  have hcb := cut_byt hb
  have hcl2 := cut_len l
  refine c16 (h.old v4) hc fun al w5 u5 ha hao => ⟨_, _, rfl, kp u5, ?_⟩
  have hac := hao.le
  have hal := ha.len
  simp at hal
  generalize hC : cutOf l = C at *
  have hin : ∀ w', SeesB w' al (C ++ [201, 202, 203, 204, 205]) → SeesB w' (al.sub 1 0 C.length al.cap) C := by
    intro w' h'
    have := h'.subB (lo := 0) (hi := C.length) (mx := al.cap) (by omega) (by simp) (by omega)
    simpa using this
  have hcap : (al.sub 1 0 C.length al.cap).len ≤ (al.sub 1 0 C.length al.cap).cap := by simp [Sl.sub]; omega
  refine c17 (hin _ ha) (by omega) fun cp w6 u6 hcp hcpo => ⟨_, rfl, kp u6, ?_⟩
  have v6 := (v4.then u5).then u6
  have S6 := (hs.old u5).old u6
  have D6 := (hD.old u5).old u6
  have A6 := hin _ (ha.old u6)
  have y5 := u5.size
  have y6 := u6.size
  have hbs : ∀ x ∈ [b1, b2], x < w6.heap.size := by simp; omega
  have hp2 : (ptags C).length ≤ 2 := by
    unfold ptags
    split
    · simp
    · rename_i g t he; exact (parse_ok hcb he).2.2.2.2.1
  have hso := serOf_len dst src tags type (cutOf data)
  refine ⟨fun L T n w' => Upd [] [] w6 w' ∧ ∃ (k : Nat) (ls : List (List Int)) (gs tg : List Sl), n = k ∧ k ≤ 2 ∧ Lot w6.heap.size w' L ls gs ∧ gs.length = 7 * k ∧ (∀ l ∈ ls, l.length ≤ 70060) ∧ TL w6.heap.size w' T tg (ptags C) ∧ tg.length = k ∧
      (∀ x, x ∈ L.blk ∨ x ∈ gs.flatMap Sl.blk → x ∉ T.blk ∧ x ∉ tg.flatMap Sl.blk), fun _ _ n _ => (2 - n).toNat, ⟨Upd.refl _, 0, [], [], [], rfl, by omega, Lot.nil _ _, rfl, by simp, TL.nil _ _ _, rfl, by simp [Sl.blk]⟩, ?_⟩
  rintro L T n w7 ⟨u7, k, ls, gs, tg, rfl, hk, hL, hgl, hls, hT, htg, hsep⟩
  have y7 := u7.size
  refine brd (fun hlt => ?_) (fun hge => ?_)
  · intro J hJ
    refine c26' (A6.old u7) hcb hcap (by omega) fun f g t d1 w8 hf hg2 u8 ht hto _ hd1 => ⟨_, _, _, _, _, _, rfl, kp u8, ?_⟩
    intro b9 w9 u9
    refine c27' ((((hcp.old u7).old u8)).old u9) hcb (by omega) fun f' g' t' d' w10 hf' hg' u10 ht' _ hd' _ => ⟨_, _, _, _, _, _, rfl, kp u10, ?_⟩
    intro b11 w11 u11
    have v11 := (((u7.then u8).then u9).then u10).then u11
    refine c31' (S6.old v11) (D6.old v11) (hg 0 (by omega)) (by omega) fun s1 w12 u12 h1 o1 => ⟨_, _, rfl, kp u12, ?_⟩
    refine c32' ((S6.old v11).old u12) ((D6.old v11).old u12) (hg 0 (by omega)) (by omega) fun s2 w13 u13 h2 o2 => ⟨_, _, rfl, kp u13, ?_⟩
    refine c20 hm fun s3 w14 u14 h3 o3 => ⟨_, _, rfl, kp u14, ?_⟩
    refine c20 hm fun s4 w15 u15 h4 o4 => ⟨_, _, rfl, kp u15, ?_⟩
    refine c24 hm fun s5 w16 u16 h5 o5 => ⟨_, _, rfl, kp u16, ?_⟩
    refine c21 fun fa w17 hfa u17 => ⟨_, _, _, _, _, _, _, rfl, kp u17, ?_⟩
    have fa0 : 0 ≤ fa 0 ∧ fa 0 < 256 := by rw [hfa 0 (by omega)]; decide
    have hE : arpE 1 fa 4 (fun _ => 0) 4 (fun _ => 0) = 0 := by
      refine arpE_zero ?_ ⟨rfl, fun i _ _ => rfl⟩ ⟨rfl, fun i _ _ => rfl⟩
      have h0 : fa 0 = 2 := hfa 0 (by omega)
      unfold arpC
      rw [if_neg (by omega), if_neg]
      rintro (hh | hh)
      · unfold grp at hh; rw [h0] at hh; cases hh
      · have := (eqArr_iff.1 hh) 0 (by omega)
        rw [h0] at this; cases this
    refine c20 fa0 fun s6 w18 u18 h6 o6 => ⟨_, _, rfl, kp u18, ?_⟩
    rw [hE, if_pos rfl] at h6
    rw [hE]
    have v18 := ((((((v11.then u12).then u13).then u14).then u15).then u16).then u17).then u18
    refine c13 (A6.old v18) (by omega) fun s7 w19 u19 h7 o7 => ⟨_, rfl, kp u19, ?_⟩
    refine c13 ((A6.old v18).old u19) (by omega) fun s8 w20 u20 h8 o8 => ⟨_, rfl, kp u20, ?_⟩
    refine c33 fun s9 w21 u21 h9 _ => ⟨_, rfl, kp u21, ?_⟩
    refine c13 h9 (by decide) fun s10 w22 u22 h10 o10 => ⟨_, rfl, kp u22, ?_⟩
    have v22 := (((v18.then u19).then u20).then u21).then u22
    generalize hP : (if arpE op sm v1 a1 v2 a2 = 0 then arpB op sm a1 tm a2 else []) = P at *
    have hPl : P.length ≤ 28 := by
      subst hP
      split
      · rw [arpB_len]; omega
      · simp
    have hpad : (padOf C).length ≤ 70060 := by unfold padOf; rw [List.length_append, List.length_replicate]; omega
    intro J1 hJ1
    have U20 : ∀ w', Upd [] [] w22 w' → Upd [] [] w20 w' := fun w' u => u21.then (u22.then u)
    have U19 : ∀ w', Upd [] [] w22 w' → Upd [] [] w19 w' := fun w' u => u20.then (U20 w' u)
    have U18 : ∀ w', Upd [] [] w22 w' → Upd [] [] w18 w' := fun w' u => u19.then (U19 w' u)
    have U16 : ∀ w', Upd [] [] w22 w' → Upd [] [] w16 w' := fun w' u => (u17.then u18).then (U18 w' u)
    have U15 : ∀ w', Upd [] [] w22 w' → Upd [] [] w15 w' := fun w' u => u16.then (U16 w' u)
    have U14 : ∀ w', Upd [] [] w22 w' → Upd [] [] w14 w' := fun w' u => u15.then (U15 w' u)
    have U13 : ∀ w', Upd [] [] w22 w' → Upd [] [] w13 w' := fun w' u => u14.then (U14 w' u)
    have U12 : ∀ w', Upd [] [] w22 w' → Upd [] [] w12 w' := fun w' u => u13.then (U13 w' u)
    have U10 : ∀ w', Upd [] [] w22 w' → Upd [] [] w10 w' := fun w' u => (u11.then u12).then (U12 w' u)
    have U8 : ∀ w', Upd [] [] w22 w' → Upd [] [] w8 w' := fun w' u => (u9.then u10).then (U10 w' u)
    have seen : ∀ w', Upd [] [] w6 w' → SeesB w' d1 (pdata C) := by
      intro w' u
      rcases hd1 with ⟨rfl, e⟩ | ⟨t0, rfl, ht0, e⟩
      · rw [e]; exact Sees.nil _ _ _ _
      · rw [e]
        have := (A6.old u).subB (lo := t0) (hi := C.length) (mx := C.length) ht0 (Nat.le_refl _) (Nat.le_refl _)
        rwa [List.take_length] at this
    have hpl := pdata_len C
    refine brf (by simp) ?_
    refine c28T (ht.old (U8 _ (Upd.refl _))) (ht'.old (U10 _ (Upd.refl _))) (seen _ v22) (hd'.old (U10 _ (Upd.refl _))) (fun i hi => by rw [hf i hi, hf' i hi]) (fun i hi => by rw [hg2 i hi, hg' i hi]) (by omega) (by omega) fun w23 u23 => ⟨_, rfl, kp u23, brf rfl (brf (by simp) ?_)⟩
    refine cSameT (h1.old (U12 _ u23)) (h2.old (U13 _ u23)) (by omega) fun w24 u24 => ⟨_, rfl, kp u24, brf rfl (brf (by simp) ?_)⟩
    have q24 := u23.then u24
    refine cSameT (h3.old (U14 _ q24)) (h5.old (U16 _ q24)) (by omega) fun w25 u25 => ⟨_, rfl, kp u25, brf rfl ?_⟩
    have q25 := q24.then u25
    refine cSameT (h4.old (U15 _ q25)) (h5.old (U16 _ q25)) (by omega) fun w26 u26 => ⟨_, rfl, kp u26, brf rfl (brf rfl (brf (by rw [h6.len, arpB_len]; rfl) ?_))⟩
    have q26 := q25.then u26
    refine c18 ((hcp.old v22).old q26) (by omega) fun s11 w27 u27 h11 _ => ⟨_, rfl, kp u27, ?_⟩
    have q27 := q26.then u27
    refine cSameT (h7.old (U19 _ q27)) h11 (by omega) fun w28 u28 => ⟨_, rfl, kp u28, brf rfl ?_⟩
    have q28 := q27.then u28
    refine cSameT (h8.old (U20 _ q28)) (h7.old (U19 _ q28)) (by omega) fun w29 u29 => ⟨_, rfl, kp u29, brf rfl (brf (by rw [h10.len]; rfl) ?_)⟩
    have q29 := q28.then u29
    repeat refine And.intro rfl ?_
    refine hJ1 _ ?_
    clear hJ1
    have y8 := u8.size
    have y9 := u9.size
    have y10 := u10.size
    have y11 := u11.size
    have y12 := u12.size
    have y13 := u13.size
    have y14 := u14.size
    have y15 := u15.size
    have y16 := u16.size
    have y17 := u17.size
    have y18 := u18.size
    have y19 := u19.size
    have y20 := u20.size
    have y21 := u21.size
    have y22 := u22.size
    have y23 := q29.size
    have U7 : ∀ w', Upd [] [] w22 w' → Upd [] [] w7 w' := fun w' u => u8.then (U8 w' u)
    intro b30 w30 u30 hr30
    have hb9 := u9.new (b := b9) (by simp)
    have hb11 := u11.new (b := b11) (by simp)
    have q30 := q29.then u30
    have y30 := u30.size
    have zL := hL.own.blk
    have zT := hT.own.blk
    have zt := hto.blk
    have zg : ∀ x, x ∈ gs.flatMap Sl.blk → w6.heap.size ≤ x ∧ x < w7.heap.size := hL.blks
    have ztg : ∀ x, x ∈ tg.flatMap Sl.blk → w6.heap.size ≤ x ∧ x < w7.heap.size := fun x hx => by
      obtain ⟨y, hy, hx⟩ := List.mem_flatMap.1 hx
      exact (hT.owns y hy).blk x hx
    have nsb : ∀ x, x ∈ ([s1, s3, s4, s6, s7, s8, s10] : List Sl).flatMap Sl.blk → w11.heap.size ≤ x ∧ x < w22.heap.size := fun x hx => by
      obtain ⟨y, hy, hx2⟩ := List.mem_flatMap.1 hx
      simp at hy
      rcases hy with rfl | rfl | rfl | rfl | rfl | rfl | rfl
      · have := o1.blk x hx2; omega
      · have := o3.blk x hx2; omega
      · have := o4.blk x hx2; omega
      · have := o6.blk x hx2; omega
      · have := o7.blk x hx2; omega
      · have := o8.blk x hx2; omega
      · have := o10.blk x hx2; omega
    refine lot_app (M := w7.heap.size) (ns := [s1, s3, s4, s6, s7, s8, s10]) (nl := [serOf dst src tags type (cutOf data), P, P, _, padOf C, padOf C, padOf smallB]) (hL.old (U7 _ q30)) hr30 rfl rfl
      ⟨h1.old (U12 _ q30), h3.old (U14 _ q30), h4.old (U15 _ q30), h6.old (U18 _ q30), h7.old (U19 _ q30), h8.old (U20 _ q30), h10.old q30, trivial⟩ ?_ ?_ (fun x hx y hy => ((hL.owns x hx).blk y hy).2) (fun y hy => (zL y hy).2) y7 (by omega) (by simp [hgl]; omega) (fun x hx hm => by have := zL x hx; simp at hm; omega) fun r w31 L31 u31 rn => ?_
    · intro x hx
      simp at hx
      rcases hx with rfl | rfl | rfl | rfl | rfl | rfl | rfl
      · exact (o1.old (U12 _ q30)).mono (by omega)
      · exact (o3.old (U14 _ q30)).mono (by omega)
      · exact (o4.old (U15 _ q30)).mono (by omega)
      · exact (o6.old (U18 _ q30)).mono (by omega)
      · exact (o7.old (U19 _ q30)).mono (by omega)
      · exact (o8.old (U20 _ q30)).mono (by omega)
      · exact (o10.old q30).mono (by omega)
    · simp [apt_of o1 o3 (by omega), apt_of o1 o4 (by omega), apt_of o1 o6 (by omega), apt_of o1 o7 (by omega), apt_of o1 o8 (by omega), apt_of o1 o10 (by omega), apt_of o3 o4 (by omega), apt_of o3 o6 (by omega), apt_of o3 o7 (by omega), apt_of o3 o8 (by omega), apt_of o3 o10 (by omega), apt_of o4 o6 (by omega), apt_of o4 o7 (by omega), apt_of o4 o8 (by omega), apt_of o4 o10 (by omega), apt_of o6 o7 (by omega), apt_of o6 o8 (by omega), apt_of o6 o10 (by omega), apt_of o7 o8 (by omega), apt_of o7 o10 (by omega), apt_of o8 o10 (by omega)]
    have y31 := u31.size
    have tL : ∀ x ∈ t.blk, x ∉ L.blk := fun x hx hm' => by have := zt x hx; have := zL x hm'; omega
    have T31 := (hT.old (U7 _ q30)).upd u31 (fun x hx hm' => (hsep x (.inl hm')).1 hx) (fun y hy x hx hm' => (hsep x (.inl hm')).2 (List.mem_flatMap.2 ⟨y, hy, hx⟩))
    have t31 := (ht.old (U8 _ q30)).upd u31 tL
    have to31 := (hto.old (U8 _ q30)).upd u31 tL
    intro b32 w32 u32 hr32
    have y32 := u32.size
    refine TL.app (M := w7.heap.size) (x := t) (T31.old u32) hr32 rfl (t31.old u32) (to31.old u32) (fun y hy x hx => ((hT.owns y hy).blk x hx).2) (fun x hx => (zT x hx).2) y7 (by omega) (by omega) (fun x hx hm' => by have := zT x hx; simp at hm'; omega) fun r2 w33 T33 u33 rn2 => ?_
    have zr : ∀ x ∈ r.blk, x ∉ T.blk := fun x hx hm' => by
      have := zT x hm'
      rcases rn x hx with h' | h'
      · exact (hsep x (.inl h')).1 hm'
      · omega
    have L33 := lot_upd (L31.old u32) u33 zr (fun y hy x hx hm' => by
      have := zT x hm'
      rcases List.mem_append.1 hy with hy | hy
      · exact (hsep x (.inr (List.mem_flatMap.2 ⟨y, hy, hx⟩))).1 hm'
      · have := nsb x (List.mem_flatMap.2 ⟨y, hy, hx⟩); omega)
    repeat refine And.intro rfl ?_
    refine hJ _ _ _ ?_
    repeat refine And.intro rfl ?_
    refine ⟨⟨((u7.then (U7 _ q30)).step0 u31 (fun x hx => (zL x hx).1) |>.then u32).step0 u33 (fun x hx => (zT x hx).1), k + 1, _, _, _, wr_succ (by omega), by omega, L33, by simp [hgl]; omega, ?_, T33, by simp [htg], ?_⟩, by rw [wr_succ (by omega)]; (try dsimp only); omega⟩
    · intro l' hl'
      rcases List.mem_append.1 hl' with hl' | hl'
      · exact hls l' hl'
      · have e28 := arpB_len 1 fa (fun _ => 0) (fun _ => 0) (fun _ => 0)
        have esm : (padOf smallB).length = 60 := rfl
        simp at hl'
        rcases hl' with rfl | rfl | rfl | rfl | rfl <;> omega
    · intro x hx
      have bx : (x ∈ L.blk ∨ x ∈ gs.flatMap Sl.blk) ∧ x < w7.heap.size ∨ w11.heap.size ≤ x ∧ x < w22.heap.size ∨ w30.heap.size ≤ x ∧ x < w31.heap.size := by
        rcases hx with hx | hx
        · have := (L31.own.blk x hx).2
          rcases rn x hx with h' | h'
          · exact .inl ⟨.inl h', (zL x h').2⟩
          · exact .inr (.inr ⟨h', this⟩)
        · rw [List.flatMap_append] at hx
          rcases List.mem_append.1 hx with hx | hx
          · exact .inl ⟨.inr hx, (zg x hx).2⟩
          · exact .inr (.inl (nsb x hx))
      constructor
      · intro h2'
        rcases rn2 x h2' with h' | h'
        · have := zT x h'
          rcases bx with ⟨h3', _⟩ | h3' | h3'
          · exact (hsep x h3').1 h'
          · omega
          · omega
        · omega
      · intro h2'
        rw [List.flatMap_append] at h2'
        rcases List.mem_append.1 h2' with h' | h'
        · have := ztg x h'
          rcases bx with ⟨h3', _⟩ | h3' | h3'
          · exact (hsep x h3').2 h'
          · omega
          · omega
        · simp at h'
          have := zt x h'
          omega
  · intro J hJ
    have hk2 : k = 2 := by omega
    subst hk2
    have hll : ls.length = gs.length := hL.parts.len.symm
    have hfl := flat_bound hls
    refine cApart hL.parts (fun x hx => (hL.owns x hx).mono (Nat.zero_le _)) hL.off hL.index (by omega) (by omega) fun w8 u8 => ⟨_, rfl, .inr ?_, brf (by decide) ?_⟩
    · intro x hx
      refine u8.keep x (by have := hbs x hx; omega) (fun hm' => ?_)
      have := (hL.blks x hm').1
      have := hbs x hx
      omega
    have y8 := u8.size
    have gb : ∀ x ∈ gs.flatMap Sl.blk, w6.heap.size ≤ x := fun x hx => (hL.blks x hx).1
    have v8 := (v6.then u7).step0 u8 (fun x hx => by have := gb x hx; have := v6.size; omega)
    have A8 := A6.upd' (A6.old u7) u8 gb
    have cp8 := hcp.upd' (hcp.old u7) u8 gb
    have T8 := hT.upd u8 (fun x hx hm' => (hsep x (.inr hm')).1 hx) (fun y hy x hx hm' => (hsep x (.inr hm')).2 (List.mem_flatMap.2 ⟨y, hy, hx⟩))
    refine cSameT A8 cp8 (by omega) fun w9 u9 => ⟨_, rfl, kp u9, brf rfl ?_⟩
    have y9 := u9.size
    have v9 := v8.then u9
    have A9 := A8.old u9
    have cp9 := cp8.old u9
    have T9 := T8.old u9
    have hro := T9.row.len
    rw [htg] at hro
    have tb : ∀ x ∈ tg.flatMap Sl.blk, w6.heap.size ≤ x ∧ x < w7.heap.size := fun x hx => by
      obtain ⟨y, hy, hx⟩ := List.mem_flatMap.1 hx
      exact (hT.owns y hy).blk x hx
    have mem : ∀ {i : Nat} (hi : i < tg.length) {x : Nat}, x ∈ tg[i].blk → x ∈ tg.flatMap Sl.blk := fun hi x hx => List.mem_flatMap.2 ⟨_, List.getElem_mem hi, hx⟩
    have Toff : ∀ x ∈ T.blk, x ∉ tg.flatMap Sl.blk := fun x hx hm' => by
      obtain ⟨y, hy, hx2⟩ := List.mem_flatMap.1 hm'
      exact T9.off y hy x hx2 hx
    have dis : ∀ i j (hi : i < tg.length) (hj : j < tg.length), i ≠ j → ∀ x ∈ tg[i].blk, x ∉ tg[j].blk := by
      intro i j hi hj hne
      rcases Nat.lt_or_gt_of_ne hne with h1 | h1
      · exact List.pairwise_iff_getElem.1 T9.dis i j hi hj h1
      · exact (List.pairwise_iff_getElem.1 T9.dis j i hj hi h1 : Apt _ _).symm
    generalize hp : ptags C = p at *
    have rd : ∀ {w' : World}, Sees cSl w' T tg → ∀ i (hi : i < tg.length), w'.cell? (T.at 1 i) = some (tg[i]).val ∧ T.ptr.isSome = true := by
      intro w' hr i hi
      have := hr.elem (i := i) hi 0 (by simp [cSl])
      rw [add_zero] at this
      exact ⟨this, hr.isSome (by decide) (by omega)⟩
    have ix : ∀ {w' : World} {X : Prop} (i : Nat), Sees cSl w' T tg → i < tg.length → X → Need (decide (0 ≤ (i : Int)) && decide ((i : Int) < (T.len : Int)) && T.ptr.isSome) X := fun i hr hi x => needIx (by omega) (by omega) (rd hr i hi).2 x
    have rowT : ∀ {w'}, Upd (tg.flatMap Sl.blk) [] w9 w' → Sees cSl w' T tg := fun u => T9.row.upd u Toff
    repeat refine And.intro rfl ?_
    refine hJ _ ?_
    -- the tags of both turns are written over
    refine ⟨fun n w' => Upd (tg.flatMap Sl.blk) [] w9 w' ∧ (∀ y ∈ tg, Own w6.heap.size 4 w' y) ∧ ∃ i : Nat, n = i ∧ i ≤ 2 ∧ ∀ j (hj : j < tg.length), Sees cTag w' tg[j] (if j < i then List.replicate p.length (mk j) else p), fun n _ => (2 - n).toNat,
      ⟨(Upd.refl _).wide (by simp), T9.owns, 0, rfl, by omega, fun j hj => by simpa using T9.each _ (List.getElem_mem hj)⟩, ?_⟩
    rintro n w10 ⟨u10, o10, i, rfl, hi, hS⟩
    have r10 := rowT u10
    refine brd (fun hlt => ?_) (fun hge => ?_)
    · have hi2 : i < tg.length := by omega
      have hSi := hS i hi2
      rw [if_neg (by omega)] at hSi
      refine ⟨fun n' w' => Upd (tg.flatMap Sl.blk) [] w9 w' ∧ Upd (tg[i]).blk [] w10 w' ∧ Own w6.heap.size 4 w' tg[i] ∧ ∃ q : Nat, n' = q ∧ q ≤ p.length ∧ Sees cTag w' tg[i] (List.replicate q (mk i) ++ p.drop q), fun n' _ => (p.length - n').toNat,
        ⟨u10, (Upd.refl _).wide (by simp), o10 _ (List.getElem_mem hi2), 0, rfl, by omega, by simpa using hSi⟩, ?_⟩
      rintro n' w11 ⟨u11, x11, o11, q, rfl, hq, hs11⟩
      have r11 := rowT u11
      have hl11 := hs11.len
      have hlen11 : (List.replicate q (mk i) ++ p.drop q).length = p.length := by simp; omega
      refine ix i r11 hi2 ⟨_, (by rw [Int.toNat_natCast]; exact (rd r11 i hi2).1), ?_⟩
      refine brd (fun hlt2 => ?_) (fun hge2 => ?_)
      · refine ix i r11 hi2 ⟨_, (by rw [Int.toNat_natCast]; exact (rd r11 i hi2).1), needT hs11 (by omega) (by omega) ?_⟩
        refine own_set (c := cTag) (x := mk i) hs11 o11 (by decide) (by omega) rfl (fun x hx hm' => by have := o11.blk x hx; have := hbs x hm'; omega) fun w12 hs12 o12 u12 => ?_
        have e : (List.replicate q (mk i) ++ p.drop q).set q (mk i) = List.replicate (q + 1) (mk i) ++ p.drop (q + 1) := by
          rw [List.set_append_right _ _ (by simp), List.length_replicate, Nat.sub_self, List.drop_eq_getElem_cons (show q < p.length by omega), List.set_cons_zero, List.replicate_succ', List.append_assoc]
          rfl
        rw [Int.toNat_natCast, e] at hs12
        repeat refine And.intro rfl ?_
        exact ⟨⟨u11.step u12 (fun x hx => .inr (mem hi2 hx)), x11.step u12 (fun x hx => .inr hx), o12, q + 1, wr_succ (by omega), by omega, hs12⟩, by rw [wr_succ (by omega)]; (try dsimp only); omega⟩
      · have hqp : q = p.length := by omega
        subst hqp
        repeat refine And.intro rfl ?_
        refine ⟨⟨u11, fun y hy => ?_, i + 1, wr_succ (by omega), by omega, fun j hj => ?_⟩, by rw [wr_succ (by omega)]; (try dsimp only); omega⟩
        · obtain ⟨j, hj, rfl⟩ := List.getElem_of_mem hy
          by_cases hji : j = i
          · subst hji; exact o11
          · exact (o10 _ (List.getElem_mem hj)).upd x11 (dis j i hj hi2 hji)
        · by_cases hji : j = i
          · subst hji
            rw [if_pos (by omega)]
            simpa using hs11
          · have := (hS j hj).upd x11 (dis j i hj hi2 hji)
            by_cases hjl : j < i
            · rw [if_pos (by omega)]; rwa [if_pos hjl] at this
            · rw [if_neg (by omega)]; rwa [if_neg hjl] at this
    have hi2 : i = 2 := by omega
    subst hi2
    have S10 : ∀ j (hj : j < tg.length), Sees cTag w10 tg[j] (List.replicate p.length (mk j)) := fun j hj => by
      have := hS j hj
      rwa [if_pos (by omega)] at this
    have y10 := u10.size
    have v10 := v9.step0 u10 (fun x hx => by have := tb x hx; have := v6.size; omega)
    have N10 : ∀ x ∈ tg.flatMap Sl.blk, x < w10.heap.size := fun x hx => by have := tb x hx; omega
    -- twenty more behind each
    refine ⟨fun G n w' => Upd (tg.flatMap Sl.blk) [] w10 w' ∧ (∀ y ∈ tg, Own w6.heap.size 4 w' y) ∧ Own w10.heap.size 1 w' G ∧ ∃ (i : Nat) (us : List Sl), n = i ∧ i ≤ 2 ∧ us.length = i ∧ Sees cSl w' G us ∧
        (∀ j (hj : j < tg.length), Sees cTag w' tg[j] (List.replicate p.length (mk j))) ∧
        (∀ j (hj : j < us.length) (hj2 : j < tg.length), Sees cTag w' us[j] (List.replicate (p.length + 20) (mk j)) ∧ (∀ x ∈ us[j].blk, x ∈ tg[j].blk ∨ w10.heap.size ≤ x) ∧ (∀ x ∈ us[j].blk, x ∉ G.blk ∧ x < w'.heap.size)), fun _ n _ => (2 - n).toNat,
      ⟨(Upd.refl _).wide (by simp), o10, Own.none _ _ _, 0, [], rfl, by omega, rfl, Sees.nil _ _ _ _, S10, fun j hj => by simp at hj⟩, ?_⟩
    rintro G n w11 ⟨u11, o11, oG, i, us, rfl, hi, hus, hG, S11, hU⟩
    have v11 := v10.step0 u11 (fun x hx => by have := tb x hx; have := v6.size; omega)
    have y11 := u11.size
    have rowT2 : ∀ {w'}, Upd (tg.flatMap Sl.blk) [] w10 w' → Sees cSl w' T tg := fun u => r10.upd u Toff
    have r11 := rowT2 u11
    refine brd (fun hlt => ?_) (fun hge => ?_)
    · have hi2 : i < tg.length := by omega
      refine ix i r11 hi2 ⟨_, (by rw [Int.toNat_natCast]; exact (rd r11 i hi2).1), ?_⟩
      refine ⟨fun x n' w' => Upd (tg.flatMap Sl.blk) [] w10 w' ∧ w11.heap.size ≤ w'.heap.size ∧ (∀ y ∈ tg, Own w6.heap.size 4 w' y) ∧ Own w10.heap.size 1 w' G ∧ Sees cSl w' G us ∧ (∀ j (hj : j < tg.length), Sees cTag w' tg[j] (List.replicate p.length (mk j))) ∧
          (∀ j (hj : j < us.length) (hj2 : j < tg.length), Sees cTag w' us[j] (List.replicate (p.length + 20) (mk j))) ∧
          ∃ t : Nat, n' = t ∧ t ≤ 20 ∧ Sees cTag w' x (List.replicate (p.length + t) (mk i)) ∧ Own w6.heap.size 4 w' x ∧ (x.ptr = (tg[i]).ptr ∨ ∀ z ∈ x.blk, w11.heap.size ≤ z), fun _ n' _ => (20 - n').toNat,
        ⟨u11, Nat.le_refl _, o11, oG, hG, S11, fun j hj hj2 => (hU j hj hj2).1, 0, rfl, by omega, S11 i hi2, o11 _ (List.getElem_mem hi2), .inl rfl⟩, ?_⟩
      rintro x n' w12 ⟨u12, y12, o12, oG12, hG12, S12, hU12, t, rfl, ht, hx, ox, hpx⟩
      have xb : ∀ z ∈ x.blk, z ∈ tg[i].blk ∨ w11.heap.size ≤ z := fun z hz => by
        rcases hpx with h' | h'
        · exact .inl (by rw [← blk_ptr h']; exact hz)
        · exact .inr (h' z hz)
      have gG : ∀ z ∈ G.blk, w10.heap.size ≤ z ∧ z < w11.heap.size := oG.blk
      have xG : ∀ z ∈ x.blk, z ∉ G.blk := fun z hz hm' => by
        have := gG z hm'
        rcases xb z hz with h' | h'
        · have := N10 z (mem hi2 h'); omega
        · omega
      have xU : ∀ j (hj : j < us.length) (hj2 : j < tg.length), ∀ z ∈ us[j].blk, z ∉ x.blk := fun j hj hj2 z hz hm' => by
        have h3 := (hU j hj hj2).2.2 z hz
        rcases xb z hm' with h' | h'
        · rcases (hU j hj hj2).2.1 z hz with h4 | h4
          · exact dis i j hi2 hj2 (by omega) z h' h4
          · have := N10 z (mem hi2 h'); omega
        · omega
      refine brd (fun hlt2 => ?_) (fun hge2 => ?_)
      · intro b13 w13 u13 hr13
        have y13 := u13.size
        have hx13 := hx.old u13
        have ox13 := ox.old u13
        have xnb : ∀ z ∈ x.blk, z ∉ [b1, b2] := fun z hz hm' => by have := ox.blk z hz; have := hbs z hm'; omega
        have e : List.replicate (p.length + t) (mk i) ++ [mk i] = List.replicate (p.length + (t + 1)) (mk i) := by rw [← Nat.add_assoc, List.replicate_succ']
        refine append_two (c := cTag) (N := w6.heap.size) (new := [mk i]) hx13 ox13 (tag_row (n := 1) (cap := 1) (mk i) hr13 rfl rfl) (by omega) xnb (by decide) (by simp; omega) (fun r w14 hr or_ hpr u14 hkeep hsz => ?_) (fun r w14 hr or_ u14 => ?_)
        · rw [e] at hr
          repeat refine And.intro rfl ?_
          refine ⟨⟨?_, by omega, fun y hy => hkeep _ _ _ ((o12 y hy).old u13), hkeep _ _ _ (oG12.old u13), (hG12.old u13).upd u14 (fun z hz hm' => xG z hm' hz), fun j hj => ?_, fun j hj hj2 => ((hU12 j hj hj2).old u13).upd u14 (xU j hj hj2), t + 1, wr_succ (by omega), by omega, hr, or_, ?_⟩, by rw [wr_succ (by omega)]; (try dsimp only); omega⟩
          · refine u12.step (u13.wide (m' := x.blk) (by simp) |>.step u14 (fun z hz => .inr hz)) (fun z hz => ?_)
            rcases xb z hz with h' | h'
            · exact .inr (mem hi2 h')
            · exact .inl (by omega)
          · by_cases hji : j = i
            · subst hji
              rcases hpx with h' | h'
              · refine hr.prefix_ (hpr.trans h') ?_ (S12 j hj).len
                rw [List.length_replicate, List.drop_replicate, rep_addT]
                congr 1; omega
              · exact ((S12 j hj).old u13).upd u14 (fun z hz hm' => by have := h' z hm'; have := N10 z (mem hj hz); omega)
            · exact ((S12 j hj).old u13).upd u14 (fun z hz hm' => by
                rcases xb z hm' with h' | h'
                · exact dis j i hj hi2 hji z hz h'
                · have := N10 z (mem hj hz); omega)
          · rcases hpx with h' | h'
            · exact .inl (hpr.trans h')
            · exact .inr (by rw [blk_ptr hpr]; exact h')
        · rw [e] at hr
          have u14' := u13.then u14
          have y14 := u14.size
          repeat refine And.intro rfl ?_
          refine ⟨⟨u12.step u14' (by simp), by omega, fun y hy => (o12 y hy).old u14', oG12.old u14', hG12.old u14', fun j hj => (S12 j hj).old u14', fun j hj hj2 => (hU12 j hj hj2).old u14', t + 1, wr_succ (by omega), by omega, hr, or_.mono (by omega), .inr fun z hz => by have := (or_.blk z hz).1; omega⟩, by rw [wr_succ (by omega)]; (try dsimp only); omega⟩
      · have ht20 : t = 20 := by omega
        subst ht20
        intro b13 w13 u13 hr13
        have y13 := u13.size
        refine append_own (c := cSl) (new := [x]) (hG12.old u13) (oG12.old u13) (sees_row hr13 [x] rfl rfl) (by omega) (fun z hz hm' => by have := gG z hz; have := hbs z hm'; omega) (by decide) (by simp; omega) fun r w14 hr or_ u14 hn14 => ?_
        have y14 := u14.size
        have tG : ∀ j (hj : j < tg.length), ∀ z ∈ tg[j].blk, z ∉ G.blk := fun j hj z hz hm' => by have := gG z hm'; have := N10 z (mem hj hz); omega
        repeat refine And.intro rfl ?_
        refine ⟨⟨(u12.step u13 (by simp)).step u14 (fun z hz => .inl (gG z hz).1), fun y hy => ?_, or_, i + 1, us ++ [x], wr_succ (by omega), by omega, by simp [hus], hr, fun j hj => ((S12 j hj).old u13).upd u14 (tG j hj), fun j hj hj2 => ?_⟩, by rw [wr_succ (by omega)]; (try dsimp only); omega⟩
        · obtain ⟨j, hj, rfl⟩ := List.getElem_of_mem hy
          exact ((o12 _ (List.getElem_mem hj)).old u13).upd u14 (tG j hj)
        · by_cases hjl : j < us.length
          · rw [List.getElem_append_left hjl]
            obtain ⟨a1, a2, a3⟩ := hU j hjl hj2
            refine ⟨((hU12 j hjl hj2).old u13).upd u14 (fun z hz => (a3 z hz).1), a2, fun z hz => ⟨fun hm' => ?_, by have := (a3 z hz).2; omega⟩⟩
            rcases hn14 z hm' with h' | h'
            · exact (a3 z hz).1 h'
            · have := (a3 z hz).2; omega
          · have hji : j = i := by simp at hj; omega
            subst hji
            have eg : (us ++ [x])[j] = x := by rw [List.getElem_append_right (by omega)]; simp [hus]
            rw [eg]
            refine ⟨(hx.old u13).upd u14 xG, fun z hz => (xb z hz).imp id (fun h' => by omega), fun z hz => ⟨fun hm' => ?_, by have := (ox.blk z hz).2; omega⟩⟩
            rcases hn14 z hm' with h' | h'
            · exact xG z hz h'
            · have := (ox.blk z hz).2; omega
    have hi3 : i = 2 := by omega
    subst hi3
    have hGl := hG.len
    have rdG : ∀ i (hi : i < us.length), w11.cell? (G.at 1 i) = some (us[i]).val ∧ G.ptr.isSome = true := by
      intro i hi
      have := hG.elem (i := i) hi 0 (by simp [cSl])
      rw [add_zero] at this
      exact ⟨this, hG.isSome (by decide) (by omega)⟩
    have ixG : ∀ {X : Prop} (i : Nat), i < us.length → X → Need (decide (0 ≤ (i : Int)) && decide ((i : Int) < (G.len : Int)) && G.ptr.isSome) X := fun i hi x => needIx (by omega) (by omega) (rdG i hi).2 x
    -- all are looked at
    refine ⟨fun n w' => w' = w11 ∧ ∃ i : Nat, n = i ∧ i ≤ 2, fun n _ => (2 - n).toNat, ⟨rfl, 0, rfl, by omega⟩, ?_⟩
    rintro n w' ⟨rfl, i, rfl, hi4⟩
    refine brd (fun hlt => ?_) (fun hge5 => ?_)
    · have hiu : i < us.length := by omega
      have hit : i < tg.length := by omega
      have hu := (hU i hiu hit).1
      have hul := hu.len
      have ht := S11 i hit
      have htl2 := ht.len
      rw [List.length_replicate] at hul htl2
      refine ⟨fun n2 w2 => w2 = w' ∧ ∃ q : Nat, n2 = q ∧ q ≤ p.length + 20, fun n2 _ => (p.length + 20 - n2).toNat, ⟨rfl, 0, rfl, by omega⟩, ?_⟩
      rintro n2 w2 ⟨rfl, q, rfl, hq⟩
      refine ixG i hiu ⟨_, (by rw [Int.toNat_natCast]; exact (rdG i hiu).1), ?_⟩
      refine brd (fun hlt2 => ?_) (fun hge2 => ?_)
      · intro J2 hJ2
        have hcu := tag_cells hu (i := (q : Int)) (by omega) (by rw [List.length_replicate]; omega)
        rw [List.getElem_replicate] at hcu
        have fin : J2 w2 := hJ2 _ (by (repeat refine And.intro rfl ?_); exact ⟨⟨rfl, q + 1, wr_succ (by omega), by omega⟩, by rw [wr_succ (by omega)]; (try dsimp only); omega⟩)
        refine ixG i hiu ⟨_, (by rw [Int.toNat_natCast]; exact (rdG i hiu).1), needT hu (by omega) (by rw [List.length_replicate]; omega) ⟨_, hcu.1, _, hcu.2.1, _, hcu.2.2.1, _, hcu.2.2.2, brf (by simp) ?_⟩⟩
        refine ix i r11 hit ⟨_, (by rw [Int.toNat_natCast]; exact (rd r11 i hit).1), brd (fun h5 => ?_) (fun h5 => ?_)⟩
        · have hct := tag_cells ht (i := (q : Int)) (by omega) (by rw [List.length_replicate]; omega)
          rw [List.getElem_replicate] at hct
          refine ix i r11 hit ⟨_, (by rw [Int.toNat_natCast]; exact (rd r11 i hit).1), needT ht (by omega) (by rw [List.length_replicate]; omega) ⟨_, hct.1, _, hct.2.1, _, hct.2.2.1, _, hct.2.2.2, brf (by simp) ?_⟩⟩
          repeat refine And.intro rfl ?_
          exact fin
        · repeat refine And.intro rfl ?_
          exact fin
      · repeat refine And.intro rfl ?_
        exact ⟨⟨rfl, i + 1, wr_succ (by omega), by omega⟩, by rw [wr_succ (by omega)]; (try dsimp only); omega⟩
    have A10 := A6.upd' A9 u10 (fun z hz => (tb z hz).1)
    have A11 := A6.upd' A10 u11 (fun z hz => (tb z hz).1)
    have cp10 := hcp.upd' cp9 u10 (fun z hz => (tb z hz).1)
    have cp11 := hcp.upd' cp10 u11 (fun z hz => (tb z hz).1)
    refine c26' A11 hcb hcap (by omega) fun f g t d1 w12 hf hg2 u12 ht hto _ hd1 => ⟨_, _, _, _, _, _, rfl, kp u12, ?_⟩
    intro b13 w13 u13
    refine c27' ((cp11.old u12).old u13) hcb (by omega) fun f' g' t' d' w14 hf' hg' u14 ht' _ hd' _ => ⟨_, _, _, _, _, _, rfl, kp u14, ?_⟩
    intro b15
    refine brt (by simp) fun w15 u15 => ?_
    have hpl := pdata_len C
    have seen : SeesB w15 d1 (pdata C) := by
      rcases hd1 with ⟨rfl, e⟩ | ⟨t0, rfl, ht0, e⟩
      · rw [e]; exact Sees.nil _ _ _ _
      · rw [e]
        have := ((((A11.old u12).old u13).old u14).old u15).subB (lo := t0) (hi := C.length) (mx := C.length) ht0 (Nat.le_refl _) (Nat.le_refl _)
        rwa [List.take_length] at this
    refine c28T (((ht.old u13).old u14).old u15) (ht'.old u15) seen (hd'.old u15) (fun i hi => by rw [hf i hi, hf' i hi]) (fun i hi => by rw [hg2 i hi, hg' i hi]) (by rw [hp]; omega) (by omega) fun w16 u16 => ⟨_, rfl, kp u16, brt rfl ?_⟩
    refine c25 fun w17 u17 => ⟨_, rfl, kp u17, rfl, ?_⟩
    exact (((((v11.then u12).then u13).then u14).then u15).then u16).then u17
end Go.Vc.S5
end

section
open Go Go.Vc Go.Proofs Go.ChangeShapes Go.WideShapes Go.ChangeAt Go.RowKit Go.Proofs.Ytopobapmncbjhaa
set_option linter.unusedVariables false
set_option linter.unusedSimpArgs false
set_option autoImplicit false
namespace Go.Vc.S5
theorem deep_arpL {H : Type} {w : World} {m : Nat} {x : SV} {d : DataW H} (h : Deep X w m (X.T 35) x d) :
    ∃ (op : Int) (sm : Nat → Int) (v1 : Int) (a1 tm : Nat → Int) (v2 : Int) (a2 : Nat → Int), x = arpSV op sm v1 a1 tm v2 a2 ∧ (∀ i, i < 6 → 0 ≤ sm i ∧ sm i < 256) ∧ (∀ i, i < 6 → 0 ≤ tm i ∧ tm i < 256) ∧ (∀ i, i < 16 → 0 ≤ a1 i ∧ a1 i < 256) ∧ (∀ i, i < 16 → 0 ≤ a2 i ∧ a2 i < 256) := by
  obtain ⟨fs, l, m', rfl, rfl, hh⟩ := dp_struct (b := false) (ts := [.int .i64, .arr .u8 6, .struct false [.int .i64, .arr .u8 16], .arr .u8 6, .struct false [.int .i64, .arr .u8 16]]) (show Deep X w m (.struct false [.int .i64, .arr .u8 6, .struct false [.int .i64, .arr .u8 16], .arr .u8 6, .struct false [.int .i64, .arr .u8 16]]) x d from h)
  obtain ⟨x1, _, _, _, rfl, rfl, h1, hh⟩ := all3_cons hh
  obtain ⟨x2, _, _, _, rfl, rfl, h2, hh⟩ := all3_cons hh
  obtain ⟨x3, _, _, _, rfl, rfl, h3, hh⟩ := all3_cons hh
  obtain ⟨x4, _, _, _, rfl, rfl, h4, hh⟩ := all3_cons hh
  obtain ⟨x5, _, _, _, rfl, rfl, h5, hh⟩ := all3_cons hh
  obtain ⟨rfl, rfl⟩ := all3_nil hh
  obtain ⟨op, rfl, _, _⟩ := dp_int h1
  obtain ⟨sm, _, rfl, _, _, hs⟩ := dp_arr8 h2
  obtain ⟨v1, a1, rfl, _, g1⟩ := dp_ip h3
  obtain ⟨tm, _, rfl, _, _, ht⟩ := dp_arr8 h4
  obtain ⟨v2, a2, rfl, _, g2⟩ := dp_ip h5
  exact ⟨op, sm, v1, a1, tm, v2, a2, rfl, hs, ht, g1, g2⟩


theorem bulk_pos {H : Type} (d : DataW H) : 1 ≤ Rows.uptoBulk d := by
  cases d with
  | lit l => cases l <;> simp [Rows.uptoBulk]
  | _ => simp [Rows.uptoBulk]
theorem bulk_len {H : Type} : ∀ ds : List (DataW H), ds.length ≤ Rows.uptoBulkAll ds
  | [] => by simp [Rows.uptoBulkAll]
  | d :: r => by
    have := bulk_pos d
    have := bulk_len r
    simp only [Rows.uptoBulkAll, List.length_cons]
    omega
theorem walk10 {H : Type} {W : World} (svs : List SV) (ds : List (DataW H)) (h : ArgsD X W [22, 50, 35] svs ds) (hk : Rows.uptoSmall H ds = true) :
    Ret Try.prog 10 svs W fun r w1 => r = .bool true ∧ Upd [] [] W w1 := by
  obtain ⟨x, _, d1, _, m1, rfl, rfl, h1, h⟩ := argsD_cons h
  obtain ⟨y, _, d2, _, m2, rfl, rfl, h2, h⟩ := argsD_cons h
  obtain ⟨z, _, d3, _, m3, rfl, rfl, h3, h⟩ := argsD_cons h
  obtain ⟨rfl, rfl⟩ := argsD_nil h
  obtain ⟨s, l, rfl, hs, hb, hc, _⟩ := deep_bytes (t := 22) (e := 5) rfl rfl h1
  obtain ⟨f, g, ts, ds', tags, type, data, rfl, hf, hg, hts, _, _, _, hd, hdb, hdc, _, _, _, _, _, rfl, hn⟩ := deep_frame h2
  obtain ⟨op, sm, v1, a1, tm, v2, a2, rfl, hm, _⟩ := deep_arpL h3
  have hlen : tags.length ≤ 4398046511000 := by
    rcases hn with ⟨_, rfl⟩ | ⟨els, sp, rfl, he⟩
    · simp
    · have := of_decide_eq_true hk
      simp only [Rows.uptoBulkAll, Rows.uptoBulk] at this
      have := bulk_len els
      omega
  exact c10 hs hb hc hg hts hd hdc hlen (hm 0 (by omega))
end Go.Vc.S5
end
