import Derived.Test.YtopobapmncbjhaaS5TxtL
import Derived.Test.YtopobapmncbjhaaS5Td
import Derived.Test.YtopobapmncbjhaaS5H
import Derived.Test.YtopobapmncbjhaaG5
open Go Go.Vc Go.Proofs
set_option linter.unusedVariables false
set_option linter.unusedSimpArgs false
set_option autoImplicit false
namespace Go.Vc.S5
def cTn : Cod (Int × Int × Int) := ⟨3, fun p => [.int .i64 p.1, .int .i64 p.2.1, .int .i64 p.2.2], fun _ => rfl, by simp [Value.oneCell']⟩
theorem cut_id {l : List Int} (h : l.length ≤ 70000) : cutOf l = l := List.take_of_length_le (by omega)
theorem eq16' {f g : Nat → Int} (h : ∀ i, i < 16 → f i = g i) : eqArr 16 f g = true := eqArr_iff.2 h
theorem eq6' {f g : Nat → Int} (h : ∀ i, i < 6 → f i = g i) : eqArr 6 f g = true := eqArr_iff.2 h
set_option maxRecDepth 20000 in
theorem c11 {b : Sl} {l : List Int} {f0 f1 : Nat → Int} {ts ds turns : Sl} {tags : List Tag} {type : Int} {data : List Int} {tn : List (Int × Int × Int)} {w : World} (h : SeesB w b l) (hb : Byt l) (hc : b.len ≤ b.cap)
    (hg : ∀ i, i < 6 → 0 ≤ f1 i ∧ f1 i < 256) (hts : Sees cTag w ts tags) (hd : SeesB w ds data) (hdb : Byt data) (hdc : ds.len ≤ ds.cap) (htl : tags.length ≤ 1000000000) (htn : Sees cTn w turns tn) :
    Ret Try.prog 11 [.slice b, frSV f0 f1 ts type ds, .slice turns] w fun r w1 => r = .bool true ∧ Upd [] [] w w1 := by
  refine f11_of _ _ _ _ _ _ _ _ _ ?_
  unfold vc11
  have hlen := h.len
  have hg0 := hg 0 (by omega)
  have hnl := htn.len
  intro b1 w1 u1
  have hb1 := u1.new (b := b1) (by simp)
  refine c25 fun w2 u2 => ⟨_, rfl, kp u2, brf rfl ?_⟩
  refine c29 ((hts.old u1).old u2) ((hd.old u1).old u2) hdc (by omega) fun s0 d0 w3 u3 hs0 ho0 hd0 hdo0 => ⟨_, _, _, _, _, rfl, kp u3, ?_⟩
  have v3 := (u1.then u2).then u3
  have y1 := u1.size; have y2 := u2.size; have y3 := u3.size
  have hcl := cut_len data
  have hcb := cut_byt hdb
  generalize cutOf data = D at *
  intro J hJ
  have main : ∀ (p : Sl) (l' : List Int) w4, Upd [b1] [] w3 w4 → SeesB w4 p l' → l'.length ≤ 70000 → Byt l' → J p w4 := by
    intro p l' w4 u4 hp hl' hb'
    refine hJ _ _ ?_
    clear hJ
    have hs4 := hs0.upd u4 (fun x hx hm => by have := ho0.blk x hx; simp at hm; omega)
    have hd4 := hd0.upd u4 (fun x hx hm => by have := hdo0.blk x hx; simp at hm; omega)
    have v4 := v3.step0 u4 (by simp; omega)
    have y4 := u4.size
    refine c35 hs4 hd4 (by omega) htl fun s bk w5 u5 hs5 ho5 hd5 hdo5 hlt5 => ⟨_, _, _, _, _, rfl, kp u5, ?_⟩
    refine c36 (hp.old u5) (by omega) fun bw w6 u6 hbw h6 o6 => ⟨_, rfl, kp u6, ?_⟩
    rw [sub_wide]
    have y5 := u5.size; have y6 := u6.size
    have hbk := (hdo5.blk bk (by simp [Sl.blk])).2
    have F6 : Fw w4.heap.size w6 s bk bw tags D l' := ⟨hs5.old u6, ho5.old u6, hd5.old u6, hdo5.old u6, h6, o6.mono (by omega), hlt5, by omega⟩
    have rg := F6.rng
    intro b2
    refine ⟨fun n w' => ∃ (k : Nat) (tags' : List Tag) (data' bytes' : List Int), n = k ∧ k ≤ 13 ∧ Upd [] [] w w' ∧ w6.heap.size ≤ b2 ∧ b2 < w'.heap.size ∧ Fw w4.heap.size w' s bk bw tags' data' bytes' ∧ tags'.length = tags.length ∧ data'.length = D.length ∧ bytes'.length = l'.length ∧ Byt data' ∧ Byt bytes', fun n _ => (13 - n).toNat, ?_, ?_⟩
    · intro w7 u7
      have hb2 := u7.new (b := b2) (by simp)
      exact ⟨0, tags, D, l', rfl, by omega, ((v4.then u5).then u6).then u7, hb2.1, hb2.2, F6.old u7, rfl, rfl, rfl, hcb, hb'⟩
    rintro n w7 ⟨k, tags', data', bytes', rfl, hk, U7, hb2a, hb2b, F, e1, e2, e3, db, bb⟩
    rw [← e1, ← e2, ← e3]
    rw [← e1] at htl
    rw [← e2] at hcl
    rw [← e3] at hl'
    intro J1 hJ1
    have fin : Ret Try.prog 25 [] w7 fun r w8 => ∃ b3 : Bool, r = .bool b3 ∧ Keeps [b1, b2] w7 w8 ∧ (SV.bool b3 = .bool true ∧ Upd [] [] w w8) := c25 fun w8 u8 => ⟨_, rfl, kp u8, rfl, U7.then u8⟩
    refine brd (fun h1 => brd (fun h2 => ⟨rfl, rfl, hJ1 _ ?_⟩) (fun _ => fin)) (fun _ => fin)
    clear fin hJ1
    intro J2 hJ2
    have next : ∀ w' tags2 data2 bytes2, Upd [] [] w w' → b2 < w'.heap.size → Fw w4.heap.size w' s bk bw tags2 data2 bytes2 → tags2.length = tags'.length → data2.length = data'.length → bytes2.length = bytes'.length → Byt data2 → Byt bytes2 → J2 w' := fun w' t2 d2 b2' a1 a2 a3 a4 a5 a6 a7 a8 => hJ2 _ ⟨rfl, rfl, ⟨k + 1, t2, d2, b2', wr_succ (by omega), by omega, a1, hb2a, a2, a3, a4, a5, a6, a7, a8⟩, by rw [wr_succ (by omega)]; (try dsimp only); omega⟩
    clear hJ2
    have hcap : (⟨some ⟨bw, 0, none⟩, bytes'.length, 2 * bytes'.length + 70⟩ : Sl).len ≤ (⟨some ⟨bw, 0, none⟩, bytes'.length, 2 * bytes'.length + 70⟩ : Sl).cap := by show bytes'.length ≤ 2 * bytes'.length + 70; omega
    have hcapd : (⟨some ⟨bk, 0, none⟩, data'.length, 2 * data'.length + 70⟩ : Sl).len ≤ (⟨some ⟨bk, 0, none⟩, data'.length, 2 * data'.length + 70⟩ : Sl).cap := by show data'.length ≤ 2 * data'.length + 70; omega
    refine c29 F.tgs F.dat hcapd (by omega) fun s8 d8 w8 u8 hs8 ho8 hd8 hdo8 => ⟨_, _, _, _, _, rfl, kp u8, ?_⟩
    rw [cut_id hcl] at hd8
    refine c17 (F.old u8).bys (by omega) fun s9 w9 u9 h9 o9 => ⟨_, rfl, kp u9, ?_⟩
    have F9 := (F.old u8).old u9
    have hs9 := hs8.old u9
    have hd9 := hd8.old u9
    have U9 := (U7.then u8).then u9
    have z8 := u8.size; have z9 := u9.size
    clear hs8 hd8 ho8 hdo8
    intro b3 w10 u10
    have x10 : Upd [] [] w9 w10 := u10.forget
    refine c26' (F9.old x10).bys bb hcap (by omega) fun f g t d1 w11 hf hg2 u11 ht hto hp2 hd1 => ⟨_, _, _, _, _, _, rfl, kp u11, ?_⟩
    intro b4 w12 u12
    have x12 := (x10.then u11).then u12
    refine c17 (F9.old x12).bys (by omega) fun s13 w13 u13 h13 o13 => ⟨_, rfl, kp u13, ?_⟩
    refine c27' h13 bb (by omega) fun f' g' t' d' w14 hf' hg' u14 ht' _ hd' _ => ⟨_, _, _, _, _, _, rfl, kp u14, ?_⟩
    have x14 := (x12.then u13).then u14
    intro b5 J3 hJ3
    refine brf (by simp) fun w15 u15 => ?_
    have x15 := x14.then u15
    have F15 := F9.old x15
    have D15 : SeesB w15 d1 (pdata bytes') := by
      rcases hd1 with ⟨rfl, e⟩ | ⟨q, rfl, hq, e⟩
      · rw [e]; exact Sees.nil _ _ _ _
      · rw [e]
        have := F15.bys.subB (lo := q) (hi := bytes'.length) (mx := bytes'.length) (by omega) (by omega) (Nat.le_refl _)
        simpa using this
    have hpd : (pdata bytes').length ≤ 70000 := by
      rcases hd1 with ⟨_, e⟩ | ⟨q, _, hq, e⟩
      · rw [e]; simp
      · rw [e, List.length_drop]; omega
    refine c28T ((((ht.old u12).old u13).old u14).old u15) (ht'.old u15) D15 (hd'.old u15) (fun i hi => (hf i hi).trans (hf' i hi).symm) (fun i hi => (hg2 i hi).trans (hg' i hi).symm) (by omega) (by omega) fun w16 u16 => ⟨_, rfl, kp u16, brf rfl ?_⟩
    repeat refine And.intro rfl ?_
    refine hJ3 _ ?_
    clear hJ3
    have x16 := x15.then u16
    refine c22 (F9.old x16).bys bb hcap (by omega) fun q1 q2 q3 q4 q5 q6 q7 w17 g1 g2 g3 g4 g5 g6 g7 u17 => ⟨_, _, _, _, _, _, _, _, rfl, kp u17, ?_⟩
    intro b6 w18 u18
    have x18 := (x16.then u17).then u18
    refine c17 (F9.old x18).bys (by omega) fun s19 w19 u19 h19 o19 => ⟨_, rfl, kp u19, ?_⟩
    refine c23 h19 bb o19.le (by omega) fun r1 r2 r3 r4 r5 r6 r7 w20 k1 k2 k3 k4 k5 k6 k7 u20 => ⟨_, _, _, _, _, _, _, _, rfl, kp u20, ?_⟩
    have x20 := (x18.then u19).then u20
    intro b7 J4 hJ4
    refine brf (by simp) (brf (by
      rw [g1, g3, g6, k1, k3, k6, eq6' (f := q2) (g := r2) (fun i hi => (g2 i hi).trans (k2 i hi).symm), eq16' (f := q4) (g := r4) (fun i hi => (g4 i hi).trans (k4 i hi).symm), eq6' (f := q5) (g := r5) (fun i hi => (g5 i hi).trans (k5 i hi).symm), eq16' (f := q7) (g := r7) (fun i hi => (g7 i hi).trans (k7 i hi).symm)]
      simp) fun w21 u21 => ?_)
    have x21 := x20.then u21
    refine c13 (F9.old x21).bys (by omega) fun s22 w22 u22 h22 o22 => ⟨_, rfl, kp u22, ?_⟩
    have x22 := x21.then u22
    refine c18 (h9.old x22) (by omega) fun s23 w23 u23 h23 o23 => ⟨_, rfl, kp u23, ?_⟩
    have hpad : (padOf bytes').length ≤ 70060 := by unfold padOf; rw [List.length_append, List.length_replicate]; omega
    refine cSameT (h22.old u23) h23 (by omega) fun w24 u24 => ⟨_, rfl, kp u24, brf rfl ?_⟩
    repeat refine And.intro rfl ?_
    refine hJ4 _ ?_
    clear hJ4
    have x24 := (x22.then u23).then u24
    have hsl := serOf_len f0 f1 tags' type data'
    refine c31' (F9.old x24).tgs (F9.old x24).dat hg0 (by omega) fun s25 w25 u25 h25 o25 => ⟨_, _, rfl, kp u25, ?_⟩
    have x25 := x24.then u25
    refine c32' (hs9.old x25) (hd9.old x25) hg0 (by omega) fun s26 w26 u26 h26 o26 => ⟨_, _, rfl, kp u26, ?_⟩
    have x26 := x25.then u26
    intro J5 hJ5
    refine brf (by simp) ?_
    refine c30 (F9.old x26).tgs (F9.old x26).dat.len hg0 (by omega) fun w27 u27 => ⟨_, rfl, kp u27, brf (by simp) ?_⟩
    refine cSameT ((h25.old u26).old u27) (h26.old u27) (by omega) fun w28 u28 => ⟨_, rfl, kp u28, brf rfl ?_⟩
    have x28 := (x26.then u27).then u28
    refine c37T (F9.old x28).tg (F9.old x28).ot.le (hs9.old x28) (F9.old x28).dt (hd9.old x28) (by omega) (by omega) fun w29 u29 => ⟨_, rfl, kp u29, brf rfl ?_⟩
    have x29 := x28.then u29
    refine c38T (F9.old x29).by' (h9.old x29) (by omega) fun w30 u30 => ⟨_, rfl, kp u30, brf rfl ?_⟩
    have x30 := x29.then u30
    repeat refine And.intro rfl ?_
    refine hJ5 _ ?_
    clear hJ5
    have F30 := F9.old x30
    have U30 := U9.then x30
    have z30 := x30.size
    refine brd (fun hlt => ?_) (fun _ => ⟨rfl, rfl, next w30 tags' data' bytes' U30 (by omega) F30 rfl rfl rfl db bb⟩)
    have hk2 : k < tn.length := by omega
    have h30 := htn.old U30
    have c0 := h30.elem hk2 0 (by simp [cTn])
    have c1 := h30.elem hk2 1 (by simp [cTn])
    have c2 := h30.elem hk2 2 (by simp [cTn])
    rw [add_zero] at c0
    rw [Int.toNat_natCast]
    refine needIx (by omega) (by omega) (h30.isSome (by decide) (by omega)) ⟨_, c0, _, c1, _, c2, fun w31 u31 => ?_⟩
    have z10 := u10.size; have z11 := u11.size; have z12 := u12.size; have z13 := u13.size; have z14 := u14.size; have z15 := u15.size; have z16 := u16.size; have z17 := u17.size; have z18 := u18.size; have z19 := u19.size
    have z20 := u20.size; have z21 := u21.size; have z22 := u22.size; have z23 := u23.size; have z24 := u24.size; have z25 := u25.size; have z26 := u26.size; have z27 := u27.size; have z28 := u28.size; have z29 := u29.size; have z31 := u31.size; have z30' := u30.size
    have n3 := u10.new (b := b3) (by simp)
    have n4 := u12.new (b := b4) (by simp)
    have n5 := u15.new (b := b5) (by simp)
    have n6 := u18.new (b := b6) (by simp)
    have n7 := u21.new (b := b7) (by simp)
    have bnd : ∀ x ∈ [b1, b2, b3, b4, b5, b6, b7], x < w31.heap.size ∧ (x < w4.heap.size ∨ w6.heap.size ≤ x) := by
      intro x hx
      simp only [List.mem_cons, List.not_mem_nil, or_false] at hx
      rcases hx with rfl | rfl | rfl | rfl | rfl | rfl | rfl <;> omega
    refine c39 (F30.old u31) db bb fun tags2 data2 bytes2 w32 u32 F32 l1 l2 l3 d2 bb2 => ⟨rfl, kpm u32 (fun x hx => (bnd x hx).1) (fun x hx hm => by have := bnd x hx; have := rg x hm; omega), rfl, rfl, ?_⟩
    have z32 := u32.size
    exact next w32 tags2 data2 bytes2 ((U30.then u31).step0 u32 (fun x hx => by have := rg x hx; omega)) (by omega) F32 l1 l2 l3 d2 bb2
  clear hJ
  have hb3 : ∀ {w4 : World}, Upd [b1] [] w3 w4 → SeesB w4 b l := fun {w4} u4 => h.old (v3.step0 u4 (by simp; omega))
  refine brd (fun hgt => needD (by omega) fun w4 u4 => ⟨rfl, main _ ((l.take 70000).drop 0) w4 u4 ?_ ?_ ?_⟩) (fun hle w4 u4 => ⟨rfl, main _ l w4 u4 (hb3 u4) (by omega) hb⟩)
  · exact (hb3 u4).subB (lo := 0) (hi := 70000) (mx := b.cap) (by omega) (by omega) (by omega)
  · simp; omega
  · exact (hb.take _).drop _
end Go.Vc.S5
