import Derived.Test.YtopobapmncbjhaaS5Arp
import Derived.Test.YtopobapmncbjhaaS5TxtG
import Derived.Test.YtopobapmncbjhaaMemD
import Derived.Test.YtopobapmncbjhaaRowC
open Go Go.Vc Go.Proofs
set_option linter.unusedVariables false
set_option linter.unusedSimpArgs false
set_option autoImplicit false
namespace Go.Vc.S5

theorem append_both {α : Type} {c : Cod α} {w : World} {s : Sl} {l : List α} {N e by_ : Nat} {x : Sl} {new : List α} {bs : List Nat} {F : Sl → World → Prop} (h : Sees c w s l) (o : Own N c.sz w s) (hx : Sees c w x new) (hN : N ≤ w.heap.size)
    (hbs : ∀ b ∈ s.blk, b ∉ bs) (hpos : 0 < by_) (hb : (l.length + new.length) * by_ ≤ 140737488355328)
    (k : ∀ r w1, Sees c w1 r (l ++ new) → Sees c w1 s l → Own N c.sz w1 r → Upd s.blk [] w w1 → (∀ b ∈ r.blk, b ∈ s.blk ∨ w.heap.size ≤ b) → F r w1) : Append e c.sz by_ s x bs w F := by
  refine append_two h o hx hN hbs hpos hb (fun r w1 hr ho hp u _ _ => ?_) (fun r w1 hr ho u => ?_)
  · exact k r w1 hr (hr.prefix_ hp (by rw [List.drop_left]) h.len) ho u (fun b hb => .inl (by rw [← blk_ptr hp]; exact hb))
  · exact k r w1 hr (h.old u) (ho.mono hN) (u.wide (by simp)) (fun b hb => .inr (ho.blk b hb).1)

abbrev askM : List Int := [2, 0, 0, 0, 0, 1]
theorem ask_ok {f : Nat → Int} (hf : ∀ i, i < 6 → f i = bt askM (i : Nat)) : arpE 1 f 4 (fun _ => 0) 4 (fun _ => 0) = 0 := by
  refine arpE_zero ?_ ⟨rfl, fun i _ _ => rfl⟩ ⟨rfl, fun i _ _ => rfl⟩
  unfold arpC
  rw [if_neg (by omega), if_neg]
  have h0 := hf 0 (by omega)
  have e0 : bt askM ((0 : Nat) : Int) = 2 := rfl
  rw [e0] at h0
  rintro (h | h)
  · unfold grp at h; rw [h0] at h; cases h
  · have := (eqArr_iff.1 h) 0 (by omega)
    rw [h0] at this
    cases this
theorem eq16 {f g : Nat → Int} (h : ∀ i, i < 16 → f i = g i) : eqArr 16 f g = true := eqArr_iff.2 h
theorem eq6 {f g : Nat → Int} (h : ∀ i, i < 6 → f i = g i) : eqArr 6 f g = true := eqArr_iff.2 h

set_option maxRecDepth 10000 in
theorem c4 {b : Sl} {l : List Int} {op v1 v2 : Int} {sm a1 tm a2 : Nat → Int} {w : World} (h : SeesB w b l) (hb : Byt l) (hc : b.len ≤ b.cap) (hm : 0 ≤ sm 0 ∧ sm 0 < 256) :
    Ret Try.prog 4 [.slice b, arpSV op sm v1 a1 tm v2 a2] w fun r w1 => r = .bool true ∧ Upd [] [] w w1 := by
  refine f4_of _ _ _ _ _ _ _ _ _ _ ?_
  unfold vc4
  intro b1 w1 u1
  have hb1 := u1.new (b := b1) (by simp)
  refine c21 fun f w2 hf u2 => ⟨_, _, _, _, _, _, _, rfl, kp u2, ?_⟩
  have hA := ask_ok hf
  have hf0 : 0 ≤ f 0 ∧ f 0 < 256 := by rw [hf 0 (by omega)]; decide
  refine c20 hf0 fun s w3 u3 hs ho => ⟨_, _, rfl, kp u3, ?_⟩
  rw [hA, if_pos rfl] at hs
  rw [hA]
  have hsl := hs.len
  rw [arpB_len] at hsl
  obtain ⟨p0, p1, p2, p3, p4, p5, p6, p7⟩ := q_put (tm := fun _ => 0) hA
  have hB : Byt (arpB 1 f (fun _ => 0) (fun _ => 0) (fun _ => 0)) := by
    have e6 : Byt (arrL 6 f) := arrL_byt fun i hi => by
      rw [hf i hi]
      rcases i with _ | _ | _ | _ | _ | _ | i
      all_goals first | decide | omega
    have z : ∀ n, Byt (arrL n fun _ => 0) := fun n => arrL_byt fun i hi => by omega
    exact ((((Byt.app (by simp [Byt]) (two_byt _)).app e6).app (z 4)).app (z 6)).app (z 4)
  refine c22 hs hB ho.le (by rw [arpB_len]; omega) fun q1 q2 q3 q4 q5 q6 q7 w4 g1 g2 g3 g4 g5 g6 g7 u4 => ⟨_, _, _, _, _, _, _, _, rfl, kp u4, ?_⟩
  have y1 := u1.size
  have y2 := u2.size
  have y3 := u3.size
  have y4 := u4.size
  have zs := ho.blk
  intro b2 J hJ
  refine brf (by decide) (brf (by rw [p0]; rfl) fun w5 u5 => ?_)
  have hb2 := u5.new (b := b2) (by simp)
  have y5 := u5.size
  refine c21 fun f' w6 hf' u6 => ⟨_, _, _, _, _, _, _, rfl, kp u6, u5.then u6, ?_⟩
  have y6 := u6.size
  rw [p1] at g1
  rw [p3] at g3 g6
  refine brf (by
    rw [g1, g3, g6, eq6 (f := q2) (g := f') (fun i hi => by rw [g2 i hi, p2 i hi, hf i hi, hf' i hi]), eq16 (f := q4) (fun i hi => by rw [g4 i hi, p4 i hi]), eq6 (f := q5) (fun i hi => by rw [g5 i hi, p5 i hi]), eq16 (f := q7) (fun i hi => by rw [g7 i hi, p7 i hi])]
    rfl) (brf (by simp [hsl]) ?_)
  repeat refine And.intro rfl ?_
  refine hJ _ ?_
  clear hJ
  have v6 := ((((u1.then u2).then u3).then u4).then u5).then u6
  have S6 := ((hs.old u4).old u5).old u6
  have O6 := ((ho.old u4).old u5).old u6
  refine c16 (h.old v6) hc fun al w7 u7 ha hao => ⟨_, _, rfl, kp u7, ?_⟩
  have hcb := cut_byt hb
  have hcl := cut_len l
  have hal := ha.len
  have hac := hao.le
  simp at hal
  have y7 := u7.size
  generalize hC : cutOf l = C at *
  have hin : ∀ w', SeesB w' al (C ++ [201, 202, 203, 204, 205]) → SeesB w' (al.sub 1 0 C.length al.cap) C := by
    intro w' h'
    have := h'.subB (lo := 0) (hi := C.length) (mx := al.cap) (by omega) (by simp) (by omega)
    simpa using this
  refine c17 ha (by simp; omega) fun was w8 u8 hw hwo => ⟨_, rfl, kp u8, ?_⟩
  refine c22 (hin _ (ha.old u8)) hcb (by simp [Sl.sub]; omega) (by omega) fun r1 r2 r3 r4 r5 r6 r7 w9 e1 e2 e3 e4 e5 e6 e7 u9 => ⟨_, _, _, _, _, _, _, _, rfl, kp u9, ?_⟩
  have y8 := u8.size
  have y9 := u9.size
  intro b3 w10 u10
  have hb3 := u10.new (b := b3) (by simp)
  have y10 := u10.size
  refine c17 (hin _ (((ha.old u8).old u9).old u10)) (by omega) fun cp w11 u11 hcp hcpo => ⟨_, rfl, kp u11, ?_⟩
  refine c23 hcp hcb hcpo.le (by omega) fun t1 t2 t3 t4 t5 t6 t7 w12 d1 d2 d3 d4 d5 d6 d7 u12 => ⟨_, _, _, _, _, _, _, _, rfl, kp u12, ?_⟩
  have y11 := u11.size
  have y12 := u12.size
  intro b4 J hJ
  refine brf (by simp) (brf (by
    rw [e1, d1, e3, d3, e6, d6, eq6 (f := r2) (g := t2) (fun i hi => by rw [e2 i hi, d2 i hi]), eq16 (f := r4) (g := t4) (fun i hi => by rw [e4 i hi, d4 i hi]), eq6 (f := r5) (g := t5) (fun i hi => by rw [e5 i hi, d5 i hi]), eq16 (f := r7) (g := t7) (fun i hi => by rw [e7 i hi, d7 i hi])]
    simp) fun w13 u13 => ?_)
  have hb4 := u13.new (b := b4) (by simp)
  have y13 := u13.size
  have A13 := (((((ha.old u8).old u9).old u10).old u11).old u12).old u13
  have W13 := ((((hw.old u9).old u10).old u11).old u12).old u13
  refine cSameT A13 W13 (by simp; omega) fun w14 u14 => ⟨_, rfl, kp u14, brf rfl ?_⟩
  have y14 := u14.size
  repeat refine And.intro rfl ?_
  refine hJ _ ?_
  clear hJ
  have v14 := (((((((v6.then u7).then u8).then u9).then u10).then u11).then u12).then u13).then u14
  have S14 := (((((((S6.old u7).old u8).old u9).old u10).old u11).old u12).old u13).old u14
  have O14 := (((((((O6.old u7).old u8).old u9).old u10).old u11).old u12).old u13).old u14
  refine c20 hm fun s5 w15 u15 h5 o5 => ⟨_, _, rfl, kp u15, ?_⟩
  refine c24 hm fun s6 w16 u16 h6 o6 => ⟨_, _, rfl, kp u16, ?_⟩
  have y15 := u15.size
  have y16 := u16.size
  have z5 := o5.blk
  have z6 := o6.blk
  generalize hL : (if arpE op sm v1 a1 v2 a2 = 0 then arpB op sm a1 tm a2 else []) = L at *
  have hLl : L.length ≤ 28 := by
    subst hL
    split
    · rw [arpB_len]; omega
    · simp
  intro J hJ
  refine brf (by simp) ?_
  refine cSameT (h5.old u16) h6 (by omega) fun w17 u17 => ⟨_, rfl, kp u17, brf rfl ?_⟩
  have y17 := u17.size
  repeat refine And.intro rfl ?_
  refine hJ _ ?_
  clear hJ
  have v17 := ((v14.then u15).then u16).then u17
  refine fill_loop ((h5.old u16).old u17) ((o5.old u16).old u17) (by omega) rfl (fun x hx hm => by have := z5 x hx; simp at hm; omega) (fun I M n w w' h1 h2 => by (repeat refine And.intro rfl ?_); exact ⟨h1, h2⟩) fun w18 u18 H5 O5 => ?_
  have y18 := u18.size
  have ss5 : ∀ x ∈ s.blk, x ∉ s5.blk := fun x hx hm => by have := zs x hx; have := z5 x hm; omega
  have s65 : ∀ x ∈ s6.blk, x ∉ s5.blk := fun x hx hm => by have := z6 x hx; have := z5 x hm; omega
  have v18 := v17.step0 u18 (fun x hx => by have := z5 x hx; have := v14.size; omega)
  have S18 := (((S14.old u15).old u16).old u17).upd u18 ss5
  have O18 := (((O14.old u15).old u16).old u17).upd u18 ss5
  have H6 := (h6.old u17).upd u18 s65
  refine fill_loop S18 O18 (by rw [arpB_len]; omega) rfl (fun x hx hm => by have := zs x hx; simp at hm; omega) (fun I M n w w' h1 h2 => by (repeat refine And.intro rfl ?_); exact ⟨h1, h2⟩) fun w19 u19 S19 O19 => ?_
  rw [arpB_len] at S19
  have y19 := u19.size
  have s5s : ∀ x ∈ s5.blk, x ∉ s.blk := fun x hx hm => ss5 x hm hx
  have s6s : ∀ x ∈ s6.blk, x ∉ s.blk := fun x hx hm => by have := z6 x hx; have := zs x hm; omega
  have v19 := v18.step0 u19 (fun x hx => by have := zs x hx; omega)
  have H5 := H5.upd u19 s5s
  have O5 := O5.upd u19 s5s
  have H6 := H6.upd u19 s6s
  intro b5 w20 u20 hr20
  have y20 := u20.size
  refine append_both (c := cU8) (new := [77]) (H5.old u20) (O5.old u20) (rowB hr20 _ rfl rfl) (by omega) (fun x hx hm => by have := z5 x hx; simp at hm; omega) (by decide) (by simp; omega) fun r w21 R21 H5 RO21 u21 rn => ?_
  have y21 := u21.size
  have v21 := (v19.then u20).step0 u21 (fun x hx => by have := z5 x hx; have := v14.size; omega)
  have S21 := (S19.old u20).upd u21 ss5
  have O21 := (O19.old u20).upd u21 ss5
  have H6 := (H6.old u20).upd u21 s65
  intro b6 w22 u22 hr22
  have y22 := u22.size
  refine append_both (c := cU8) (new := [78]) (S21.old u22) (O21.old u22) (rowB hr22 _ rfl rfl) (by omega) (fun x hx hm => by have := zs x hx; simp at hm; omega) (by decide) (by simp) fun r' w23 R23 S23 _ u23 _ => ?_
  have v23 := (v21.then u22).step0 u23 (fun x hx => by have := zs x hx; omega)
  have H6 := (H6.old u22).upd u23 s6s
  have H5 := (H5.old u22).upd u23 s5s
  have R21 := (R21.old u22).upd u23 (fun x hx hm => by
    have := zs x hm
    rcases rn x hx with h' | h'
    · have := z5 x h'; omega
    · omega)
  refine c20 hm fun s7 w24 u24 h7 o7 => ⟨_, _, rfl, kp u24, brt (by simp) ?_⟩
  rw [hL] at h7
  refine cSameT h7 (H6.old u24) (by omega) fun w25 u25 => ⟨_, rfl, kp u25, brt rfl ?_⟩
  have v25 := (v23.then u24).then u25
  have H5 := (H5.old u24).old u25
  have R21 := (R21.old u24).old u25
  have S25 := (S23.old u24).old u25
  have R25 := (R23.old u24).old u25
  have hL5 := H5.len
  have hR := R21.len
  rw [List.length_replicate] at hL5
  rw [List.length_append, List.length_replicate, List.length_singleton] at hR
  have b28 : bt (List.replicate 28 78) ((27 : Nat) : Int) = 78 := rfl
  have b29 : bt (List.replicate 28 78 ++ [78]) ((28 : Nat) : Int) = 78 := rfl
  have tail : ∀ {X : Prop}, (∃ n : Int, w25.cell? (s.at 1 27) = some (.int .u8 n) ∧ Br (n == 78) (Need (decide (28 < (r'.len : Int)) && r'.ptr.isSome) (∃ n : Int, w25.cell? (r'.at 1 28) = some (.int .u8 n) ∧ (SV.bool (n == 78) = .bool true ∧ Upd [] [] w w25))) X) := by
    intro X
    refine ⟨_, byteC S25 27 (by simp), ?_⟩
    rw [b28]
    refine brt rfl (needCB R25 28 (by simp) ⟨_, byteC R25 28 (by simp), ?_⟩)
    rw [b29]
    exact ⟨rfl, v25⟩
  refine bre (fun h0 => needCB S25 27 (by simp) tail) (fun h0 => ?_)
  have hL0 : 0 < L.length := by omega
  refine needCB H5 0 (by rw [List.length_replicate]; exact hL0) ⟨_, byteC H5 0 (by rw [List.length_replicate]; exact hL0), ?_⟩
  rw [bt_nat (by rw [List.length_replicate]; exact hL0), List.getElem_replicate]
  refine brt rfl ?_
  rw [wr_i64 (by omega) (by omega)]
  refine needB R21 (by omega) (by simp; omega) ⟨_, R21.byte (by omega) (by simp; omega), ?_⟩
  have bl : bt (List.replicate L.length 77 ++ [77]) ((r.len : Int) - 1) = 77 := by
    rw [← List.replicate_succ', bt_int (by omega) (by rw [List.length_replicate]; omega), List.getElem_replicate]
  rw [bl]
  exact brt rfl (needCB S25 27 (by simp) tail)
end Go.Vc.S5
