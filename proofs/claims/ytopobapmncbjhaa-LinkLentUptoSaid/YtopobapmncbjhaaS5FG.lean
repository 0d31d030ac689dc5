import Derived.Test.YtopobapmncbjhaaS5EP
section
open Go Go.Vc Go.Proofs
set_option linter.unusedVariables false
set_option linter.unusedSimpArgs false
set_option autoImplicit false
namespace Go.Vc.S5

section
variable {dst src : Nat → Int} {ts ds : Sl} {tags : List Tag} {type : Int} {data : List Int} {w : World} {R : SV → World → Prop}
set_option maxRecDepth 10000 in
theorem c32 (h : Sees cTag w ts tags) (hd : SeesB w ds data) (hs : 0 ≤ src 0 ∧ src 0 < 256) (hl : data.length ≤ 140737488355328)
    (ke : ∀ w1, chk (src 0) tags type data.length ≠ 0 → Upd [] [] w w1 → R (.tuple [.slice nilS, .int .i64 (chk (src 0) tags type data.length)]) w1)
    (ko : ∀ s w1, chk (src 0) tags type data.length = 0 → Upd [] [] w w1 → SeesB w1 s (ser dst src tags type data) → Own w.heap.size 1 w1 s → R (.tuple [.slice s, .int .i64 0]) w1) :
    Ret Try.prog 32 [frSV dst src ts type ds] w R := by
  refine f32_of _ _ _ _ _ _ _ ?_
  unfold vc32
  intro b w1 u1
  refine c52 (h.old u1) hd.len hs hl fun w2 u2 => ⟨_, rfl, kp u2, ?_⟩
  have v2 := u1.then u2
  refine bre' (fun hne => ke _ hne v2) (fun he => ?_)
  rw [he] at ko
  obtain ⟨_, h2, hT, hV, ht1, ht2, _, hsz⟩ := chk_ok he
  have hb : w.heap.size ≤ b ∧ b < w2.heap.size := by have := u1.new (b := b) (by simp); have := u2.size; omega
  have h2' := (h.old u1).old u2
  have hd2 := (hd.old u1).old u2
  have hlen := h.len
  have hbs : ∀ x ∈ [b], x < w2.heap.size := by simp; omega
  refine app_loop (m := 6) (f := dst) rfl (Upd.refl w2) (Sees.nil _ _ _ _) (Own.none _ _ _) (by simp) (fun t ht => by simp [SV.cells, SV.cellsL]) hbs (fun I M s n w r w' h1 h2 => ⟨rfl, h1, h2⟩) fun s w3 u3 hs3 ho3 => ?_
  refine app_loop (m := 6) (f := src) rfl u3 hs3 ho3 (by simp [arrL_len]) (fun t ht => by simp [SV.cells, SV.cellsL]) hbs (fun I M s n w r w' h1 h2 => ⟨rfl, h1, h2⟩) fun s w4 u4 hs4 ho4 => ?_
  refine ⟨fun s n w6 => Upd [] [] w2 w6 ∧ Own w2.heap.size 1 w6 s ∧ ∃ t : Nat, n = t ∧ t ≤ tags.length ∧ SeesB w6 s (arrL 6 dst ++ arrL 6 src ++ (tags.take t).flatMap tagB), fun _ n _ => (tags.length - n).toNat, ⟨u4, ho4, 0, rfl, by omega, by simpa using hs4⟩, ?_⟩
  rintro s n w6 ⟨u6, o6, t, rfl, ht, hs6⟩
  refine brd (fun hlt => ?_) (fun hge => ?_)
  · have ht2 : t < tags.length := by omega
    have h6 := h2'.old u6
    have hc := tag_cells h6 (i := (t : Int)) (by omega) (by omega)
    simp only [Int.toNat_natCast] at hc
    have hv := hV _ (List.getElem_mem ht2)
    unfold tagV at hv
    have ht4 : ((tags.take t).flatMap tagB).length ≤ 8 := by rw [tags_len, List.length_take]; omega
    intro J hJ
    refine needT h6 (by omega) (by omega) ⟨_, (by rw [Int.toNat_natCast]; exact hc.1), _, (by rw [Int.toNat_natCast]; exact hc.2.1), _, (by rw [Int.toNat_natCast]; exact hc.2.2.1), _, (by rw [Int.toNat_natCast]; exact hc.2.2.2), ?_⟩
    intro b2 J2 hJ2
    have hT2 := hT t ht2
    have fin : ∀ w7, Upd [] [b2] w6 w7 → J2 (tci tags[t]) w7 := by
      intro w7 u7
      have hb2 := u7.new (b := b2) (by simp)
      refine hJ2 _ _ ?_
      have v7 := u6.then u7
      have o7 := o6.old u7
      refine c53 (n := tags[t].tpid) (by omega) fun x w8 u8 hs8 => ⟨_, rfl, kp u8, ?_⟩
      have v8 := v7.then u8
      have o8 := o7.old u8
      refine append_own (c := cU8) ((hs6.old u7).old u8) o8 hs8 v8.size (fun x hx hm => by
        have := (o6.blk x hx); have := u7.size; simp at hm; omega) (by decide) (by simp only [List.length_append, arrL_len, two, List.length_cons, List.length_nil]; omega) fun r w9 hr9 ho9 u9 hn9 => ?_
      have v9 := v8.step0 u9 (fun x hx => (o8.blk x hx).1)
      refine c53 (n := tci tags[t]) (by unfold tci; split <;> omega) fun x2 w10 u10 hs10 => ⟨_, rfl, kp u10, ?_⟩
      have v10 := v9.then u10
      have o10 := ho9.old u10
      have y7 := u7.size
      have y8 := u8.size
      refine append_own (c := cU8) (hr9.old u10) o10 hs10 v10.size (fun x hx hm => by
        simp at hm
        have h1 := (ho9.blk x hx).1
        rcases hn9 x hx with h' | h'
        · have := (o6.blk x h'); omega
        · omega) (by decide) (by simp only [List.length_append, arrL_len, two, List.length_cons, List.length_nil]; omega) fun r2 w11 hr11 ho11 u11 _ => ?_
      have v11 := v10.step0 u11 (fun x hx => (o10.blk x hx).1)
      repeat refine And.intro rfl ?_
      refine hJ _ _ ?_
      repeat refine And.intro rfl ?_
      refine ⟨⟨v11, ho11, t + 1, wr_succ (by omega), by omega, ?_⟩, by rw [wr_succ (by omega)]; (try dsimp only); omega⟩
      rw [flatMap_snoc ht2]
      rw [show tagB tags[t] = two tags[t].tpid ++ two (tci tags[t]) from rfl, ← List.append_assoc, ← List.append_assoc]
      exact hr11
    have e1 : wr .i64 (wr .i64 (tags[t].pcp * 8192) + tags[t].vid) = tags[t].pcp * 8192 + tags[t].vid := by rw [wr_i64 (x := tags[t].pcp * 8192) (by omega) (by omega), wr_i64 (by omega) (by omega)]
    refine brb (fun hde w7 u7 => ?_) (fun hde w7 u7 => ?_)
    · have := fin w7 u7
      unfold tci at this
      rw [if_pos hde] at this
      rw [e1, wr_i64 (by omega) (by omega)]
      repeat refine And.intro rfl ?_
      exact this
    · have := fin w7 u7
      unfold tci at this
      rw [if_neg (by simp [hde]), Int.add_zero] at this
      rw [e1]
      repeat refine And.intro rfl ?_
      exact this
  · have ht2 : t = tags.length := by omega
    subst ht2
    rw [List.take_length] at hs6
    have ht4 : (tags.flatMap tagB).length ≤ 8 := by rw [tags_len]; omega
    refine c53 (n := type) (by omega) fun x w7 u7 hs7 => ⟨_, rfl, kp u7, ?_⟩
    have v7 := u6.then u7
    have o7 := o6.old u7
    refine append_own (c := cU8) (hs6.old u7) o7 hs7 v7.size (fun x hx hm => by have := (o7.blk x hx).1; simp at hm; omega) (by decide) (by simp only [List.length_append, arrL_len, two, List.length_cons, List.length_nil]; omega) fun r w8 hr8 ho8 u8 _ => ?_
    have v8 := v7.step0 u8 (fun x hx => (o7.blk x hx).1)
    refine append_own (c := cU8) hr8 ho8 (hd2.old v8) v8.size (fun x hx hm => by have := (ho8.blk x hx).1; simp at hm; omega) (by decide) (by simp only [List.length_append, arrL_len, two, List.length_cons, List.length_nil]; omega) fun r2 w9 hr9 ho9 u9 _ => ?_
    exact ko r2 w9 rfl (v2.step0 (v8.step u9 (m := []) (fun x hx => .inl (ho8.blk x hx).1)) (by simp)) hr9 (ho9.mono v2.size)

/-- two frames of the same values -/
theorem c28T {dst' src' : Nat → Int} {ts' ds' : Sl} (h : Sees cTag w ts tags) (h' : Sees cTag w ts' tags) (hd : SeesB w ds data) (hd' : SeesB w ds' data) (hf : ∀ i, i < 6 → dst i = dst' i) (hg : ∀ i, i < 6 → src i = src' i)
    (ht : tags.length ≤ 4398046511104) (hl : data.length ≤ 140737488355328) (k : ∀ w1, Upd [] [] w w1 → R (.bool true) w1) : Ret Try.prog 28 [frSV dst src ts type ds, frSV dst' src' ts' type ds'] w R := by
  refine f28_of _ _ _ _ _ _ _ _ _ _ _ _ ?_
  unfold vc28
  intro b b2 J hJ
  refine brf (by rw [eqArr_iff.2 hf]; rfl) (brf (by rw [eqArr_iff.2 hg]; rfl) (brf (by simp) (brf (by rw [h.len, h'.len]; simp) (brf (by rw [hd.len, hd'.len]; simp) (fun w1 u1 => ?_)))))
  repeat refine And.intro rfl ?_
  refine hJ _ ?_
  have tl := h.len
  have tl' := h'.len
  have dl := hd.len
  have dl' := hd'.len
  refine ⟨fun n w2 => Upd [] [] w w2 ∧ ∃ t : Nat, n = t ∧ t ≤ tags.length, fun n _ => (tags.length - n).toNat, ⟨u1.forget, 0, rfl, by omega⟩, ?_⟩
  rintro n w2 ⟨u2, t, rfl, ht'⟩
  refine brd (fun hlt => ?_) (fun hge => ?_)
  · have ht2 : t < tags.length := by omega
    have hc := tag_cells (h.old u2) (i := (t : Int)) (by omega) (by omega)
    have hc' := tag_cells (h'.old u2) (i := (t : Int)) (by omega) (by omega)
    refine needT (h.old u2) (by omega) (by omega) ⟨_, hc.1, _, hc.2.1, _, hc.2.2.1, _, hc.2.2.2, ?_⟩
    refine needT (h'.old u2) (by omega) (by omega) ⟨_, hc'.1, _, hc'.2.1, _, hc'.2.2.1, _, hc'.2.2.2, ?_⟩
    refine brf (by simp) fun w3 u3 => ?_
    repeat refine And.intro rfl ?_
    exact ⟨⟨u2.then u3, t + 1, wr_succ (by omega), by omega⟩, by rw [wr_succ (by omega)]; (try dsimp only); omega⟩
  · refine ⟨fun n w2 => Upd [] [] w w2 ∧ ∃ t : Nat, n = t ∧ t ≤ data.length, fun n _ => (data.length - n).toNat, ⟨u2, 0, rfl, by omega⟩, ?_⟩
    rintro n w2 ⟨u2, t, rfl, ht'⟩
    refine brd (fun hlt => ?_) (fun hge => ?_)
    · refine needB (hd.old u2) (by omega) (by omega) ⟨_, (hd.old u2).byte (by omega) (by omega), needB (hd'.old u2) (by omega) (by omega) ⟨_, (hd'.old u2).byte (by omega) (by omega), brf (by simp) fun w3 u3 => (by (repeat refine And.intro rfl ?_); exact ⟨⟨u2.then u3, t + 1, wr_succ (by omega), by omega⟩, by rw [wr_succ (by omega)]; (try dsimp only); omega⟩)⟩⟩
    · exact k _ u2
end

abbrev smallB : List Int := [255, 255, 255, 255, 255, 255, 2, 0, 0, 0, 0, 1, 8, 0, 7]
theorem c33 {w : World} {R : SV → World → Prop} (k : ∀ s w1, Upd [] [] w w1 → SeesB w1 s smallB → s.len ≤ s.cap → R (.slice s) w1) : Ret Try.prog 33 [] w R := by
  refine f33_of _ _ ?_
  unfold vc33
  intro b w1 u1 hrow
  exact k _ _ u1.forget (rowB hrow smallB rfl rfl) (Nat.le_refl _)
theorem small_byt : Byt smallB := by simp [Byt]

theorem c49 {w : World} {R : SV → World → Prop} (k : ∀ w1, Upd [] [] w w1 → R (.bool true) w1) : Ret Try.prog 49 [] w R := by
  refine f49_of _ _ ?_
  unfold vc49
  intro b w1 u1 hrow b1 b2 w2 u2 hrow2 b3 w3 u3
  have ht := sees_row (c := cTag) (n := 3) (cap := 3) hrow [⟨0, 0, false, 0⟩, ⟨0, 0, false, 0⟩, ⟨0, 0, false, 0⟩] rfl rfl
  have hz := rowB (n := 65536) (cap := 65536) hrow2 (List.replicate 65536 0) (zeros_cells _) (by rw [List.length_replicate])
  have hz3 : SeesB w2 nilS [] := Sees.nil _ _ _ _
  refine c30 (data := []) (tags := [⟨0, 0, false, 0⟩, ⟨0, 0, false, 0⟩, ⟨0, 0, false, 0⟩]) ((ht.old u2).old u3) rfl (by simp [fset]) (by simp) fun w4 u4 => ⟨_, rfl, kp u4, u3.then u4, ?_⟩
  refine c52 (data := []) (tags := [⟨0, 0, false, 0⟩, ⟨0, 0, false, 0⟩, ⟨0, 0, false, 0⟩]) (((ht.old u2).old u3).old u4) rfl (by simp [fset]) (by simp) fun w5 u5 => ⟨_, rfl, kp u5, (u3.then u4).then u5, ?_⟩
  refine bre (fun _ => ?_) (fun h => absurd rfl h)
  have v5 := (u3.then u4).then u5
  refine c30 (data := List.replicate 65536 0) (tags := []) (Sees.nil _ _ _ _) (by rw [List.length_replicate]) (by simp) (by rw [List.length_replicate]; omega) fun w6 u6 => ⟨_, rfl, kp u6, v5.then u6, ?_⟩
  refine c52 (data := List.replicate 65536 0) (tags := []) (Sees.nil _ _ _ _) (by rw [List.length_replicate]) (by simp) (by rw [List.length_replicate]; omega) fun w7 u7 => ⟨_, rfl, kp u7, ?_⟩
  rw [beq_self_eq_true]
  exact k _ (((u1.then u2).then v5).then (u6.then u7))
end Go.Vc.S5
end

section
open Go Go.Vc Go.Proofs
set_option linter.unusedVariables false
set_option linter.unusedSimpArgs false
set_option autoImplicit false
namespace Go.Vc.S5

set_option maxRecDepth 10000 in
theorem c25 {w : World} {R : SV → World → Prop} (k : ∀ w1, Upd [] [] w w1 → R (.bool true) w1) : Ret Try.prog 25 [] w R := by
  refine f25_of _ _ ?_
  unfold vc25
  refine c49 fun w1 u1 => ⟨_, rfl, brf rfl ?_⟩
  refine c33 fun s w2 u2 hs2 hc2 => ⟨_, rfl, ?_⟩
  refine c26 hs2 small_byt hc2 (by decide) (fun e w3 he u3 => by rw [small_parse] at he; cases he) fun tags t f g ts w3 hp hf hg hlim htl u3 ht3 ho3 => ⟨_, _, _, _, _, _, rfl, ?_⟩
  have hpp := hp
  rw [small_parse] at hp
  injection hp with hp
  injection hp with e1 e2
  subst e1 e2
  intro b w4 u4
  refine c26 (l := []) (Sees.nil _ _ _ _) Byt.nil (by decide) (by decide) (fun e w5 he u5 => ?_) (fun tags t f g ts w3 hp => by simp [parse] at hp)
  have ee : e = 50 := by simp [parse] at he; exact he.symm
  subst ee
  refine ⟨_, _, _, _, _, _, rfl, kp u5, ?_⟩
  intro b2 w6 u6
  have v6 := ((u3.then u4).then u5).then u6
  have h6 := hs2.old v6
  have hd : SeesB w6 (s.sub 1 (12 + 2) smallB.length smallB.length) (smallB.drop (12 + 2)) := h6.subB (lo := 14) (hi := 15) (mx := 15) (by omega) (by decide) (by omega)
  obtain ⟨hk0, hser⟩ := ser_parse small_byt hpp hf hg
  have hg0 : 0 ≤ g 0 ∧ g 0 < 256 := by rw [hg 0 (by omega)]; exact small_byt.bt _
  refine c31 (((ht3.old u4).old u5).old u6) hd hg0 (by decide) (fun w7 hne => absurd hk0 hne) fun r w7 _ u7 hs7 ho7 => ⟨_, _, rfl, kp u7, ?_⟩
  rw [hser] at hs7
  have hw : w16 smallB 12 = 2048 := rfl
  refine brt rfl (brt rfl (brt rfl (brt (by rw [show ((12 : Nat) : Int) = 12 from rfl, hw]; rfl) (brt (by rfl) ?_))))
  have hd7 := hd.old u7
  refine needCB hd7 0 (by decide) ⟨_, byteC hd7 0 (by decide), brt (by rfl) ?_⟩
  refine c33 fun s2 w8 u8 hs8 _ => ⟨_, rfl, kp u8, ?_⟩
  refine cSameT (hs7.old u8) hs8 (by decide) fun w9 u9 => ⟨_, rfl, kp u9, ?_⟩
  exact k _ (((((u1.then u2).then v6).then u7).then u8).then u9)

theorem c29 {dst src : Nat → Int} {ts ds : Sl} {tags : List Tag} {type : Int} {data : List Int} {w : World} {R : SV → World → Prop} (h : Sees cTag w ts tags) (hd : SeesB w ds data) (hc : ds.len ≤ ds.cap) (ht : tags.length ≤ 4398046511104)
    (k : ∀ s d w1, Upd [] [] w w1 → Sees cTag w1 s tags → Own w.heap.size 4 w1 s → SeesB w1 d (cutOf data) → Own w.heap.size 1 w1 d → R (frSV dst src s type d) w1) : Ret Try.prog 29 [frSV dst src ts type ds] w R := by
  refine f29_of _ _ _ _ _ _ _ ?_
  unfold vc29
  intro b b2 J hJ
  have hlen := hd.len
  have main : ∀ d w1, Upd [] [b2, b] w w1 → SeesB w1 d (cutOf data) → J dst src ts type d w1 := by
    intro d w1 u1 hd1
    have hb := u1.new (b := b) (by simp)
    have hb2 := u1.new (b := b2) (by simp)
    have hcl := cut_len data
    refine hJ _ _ _ _ _ _ ?_
    refine c17 hd1 (by omega) fun s w2 u2 hs2 ho2 => ⟨_, rfl, kp u2, fun w3 u3 => ?_⟩
    have v3 := (u1.then u2).step0 u3 (by simp; omega)
    have y2 := u2.size
    have y3 := u3.size
    have k3 : ∀ x ∈ s.blk, x ∉ [b] := fun x hx hm => by have := (ho2.blk x hx); simp at hm; omega
    have hs3 := hs2.upd u3 k3
    have ho3 := ho2.upd u3 k3
    have z1 := u1.size
    refine append_own (c := cTag) (Sees.nil _ _ _ _) (Own.none w3.heap.size _ _) (h.old v3) (Nat.le_refl _) (by simp [Sl.blk]) (by decide) (by simp; omega) fun r w4 hr4 ho4 u4 hn4 => ?_
    intro w5 u5
    have u4' : Upd [] [] w3 w4 := u4
    have v5 := (v3.then u4').step0 u5 (by simp; omega)
    have k5 : ∀ x ∈ r.blk, x ∉ [b2, b] := fun x hx hm => by have := (ho4.blk x hx); simp at hm; omega
    have k6 : ∀ x ∈ s.blk, x ∉ [b2, b] := fun x hx hm => by have := (ho2.blk x hx); simp at hm; omega
    refine k _ _ _ v5 ?_ ((ho4.upd u5 k5).mono (by omega)) ((hs3.old u4').upd u5 k6) (((ho3.old u4').upd u5 k6).mono (by omega))
    simpa using hr4.upd u5 k5
  refine brd (fun hg => ?_) (fun hg => ?_)
  · refine needD (by omega) fun w1 u1 => ?_
    repeat refine And.intro rfl ?_
    refine main _ _ u1 ?_
    exact (hd.old u1).subB (lo := 0) (hi := 70000) (mx := ds.cap) (by omega) (by omega) (by omega)
  · intro w1 u1
    repeat refine And.intro rfl ?_
    refine main _ _ u1 ?_
    have : cutOf data = data := List.take_of_length_le (by omega)
    rw [this]
    exact hd.old u1
end Go.Vc.S5
end
