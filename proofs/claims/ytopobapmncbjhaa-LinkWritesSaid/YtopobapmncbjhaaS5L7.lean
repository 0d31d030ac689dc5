import Derived.Test.YtopobapmncbjhaaS5TxtC
import Derived.Test.YtopobapmncbjhaaS5G
import Derived.Test.YtopobapmncbjhaaS5Q
import Derived.Test.YtopobapmncbjhaaS5W
open Go Go.Vc Go.Proofs
set_option linter.unusedVariables false
set_option linter.unusedSimpArgs false
set_option autoImplicit false
namespace Go.Vc.S5

noncomputable def serOf (f g : Nat → Int) (tags : List Tag) (type : Int) (data : List Int) : List Int := if chk (g 0) tags type data.length = 0 then ser f g tags type data else []
theorem serOf_len (f g : Nat → Int) (tags : List Tag) (type : Int) (data : List Int) : (serOf f g tags type data).length ≤ 65535 := by
  unfold serOf
  split
  · rename_i h
    obtain ⟨_, h2, _, _, _, _, _, h8⟩ := chk_ok (src := g) h
    unfold ser
    simp only [List.length_append, arrL_len, tags_len, two, List.length_cons, List.length_nil]; omega
  · simp
section
variable {dst src : Nat → Int} {ts ds : Sl} {tags : List Tag} {type : Int} {data : List Int} {w : World} {R : SV → World → Prop}
theorem c31' (h : Sees cTag w ts tags) (hd : SeesB w ds data) (hs : 0 ≤ src 0 ∧ src 0 < 256) (hl : data.length ≤ 140737488355328)
    (k : ∀ s w1, Upd [] [] w w1 → SeesB w1 s (serOf dst src tags type data) → Own w.heap.size 1 w1 s → R (.tuple [.slice s, .int .i64 (chk (src 0) tags type data.length)]) w1) :
    Ret Try.prog 31 [frSV dst src ts type ds] w R := by
  refine c31 h hd hs hl (fun w1 hne u => k _ _ u ?_ (Own.none _ _ _)) (fun s w1 he u hs ho => ?_)
  · unfold serOf; rw [if_neg hne]; exact Sees.nil _ _ _ _
  · have := k s w1 u (by unfold serOf; rw [if_pos he]; exact hs) ho
    rwa [he] at this
theorem c32' (h : Sees cTag w ts tags) (hd : SeesB w ds data) (hs : 0 ≤ src 0 ∧ src 0 < 256) (hl : data.length ≤ 140737488355328)
    (k : ∀ s w1, Upd [] [] w w1 → SeesB w1 s (serOf dst src tags type data) → Own w.heap.size 1 w1 s → R (.tuple [.slice s, .int .i64 (chk (src 0) tags type data.length)]) w1) :
    Ret Try.prog 32 [frSV dst src ts type ds] w R := by
  refine c32 h hd hs hl (fun w1 hne u => k _ _ u ?_ (Own.none _ _ _)) (fun s w1 he u hs ho => ?_)
  · unfold serOf; rw [if_neg hne]; exact Sees.nil _ _ _ _
  · have := k s w1 u (by unfold serOf; rw [if_pos he]; exact hs) ho
    rwa [he] at this
end
theorem cut_cut (l : List Int) : cutOf (cutOf l) = cutOf l := by unfold cutOf; rw [List.take_take]; rfl

set_option maxRecDepth 10000 in
theorem c7 {dst src : Nat → Int} {ts ds : Sl} {tags : List Tag} {type : Int} {data : List Int} {w : World} (hf : ∀ i, i < 6 → 0 ≤ dst i ∧ dst i < 256) (hg : ∀ i, i < 6 → 0 ≤ src i ∧ src i < 256) (h : Sees cTag w ts tags) (hd : SeesB w ds data) (hb : Byt data) (hc : ds.len ≤ ds.cap) (ht : tags.length ≤ 4398046511000) :
    Ret Try.prog 7 [frSV dst src ts type ds] w fun r w1 => r = .bool true ∧ Upd [] [] w w1 := by
  refine f7_of _ _ _ _ _ _ _ ?_
  unfold vc7
  intro b1 w1 u1
  have hb1 := u1.new (b := b1) (by simp)
  refine c25 fun w2 u2 => ⟨_, rfl, kp u2, brf rfl ?_⟩
  refine c29 ((h.old u1).old u2) ((hd.old u1).old u2) hc (by omega) fun s d w3 u3 hs ho hD hdo => ⟨_, _, _, _, _, rfl, kp u3, ?_⟩
  have hcb := cut_byt hb
  have hcl := cut_len data
  have hg0 := hg 0 (by omega)
  intro b2 w4 u4
  have hb2 := u4.new (b := b2) (by simp)
  have v4 := ((u1.then u2).then u3).step0 u4 (by simp; omega)
  have y2 := u2.size
  have y3 := u3.size
  have y4 := u4.size
  have zs := ho.blk
  have zd := hdo.blk
  have hs := hs.upd u4 (fun x hx hm => by have := zs x hx; simp at hm; omega)
  have ho := ho.upd u4 (fun x hx hm => by have := zs x hx; simp at hm; omega)
  have hD := hD.upd u4 (fun x hx hm => by have := zd x hx; simp at hm; omega)
  have hdo := hdo.upd u4 (fun x hx hm => by have := zd x hx; simp at hm; omega)
  have hslen := hs.len
  refine c16 hD hdo.le fun al w5 u5 ha hao => ⟨_, _, rfl, kp u5, ?_⟩
  rw [cut_cut] at ha ⊢
  have za := hao.blk
  have y5 := u5.size
  refine append_own (c := cTag) (Sees.nil _ _ _ _) (Own.none w5.heap.size _ _) (hs.old u5) (Nat.le_refl _) (by simp [Sl.blk]) (by decide) (by simp; omega) fun r w6 hr hro u6 _ => ?_
  have u6' : Upd [] [] w5 w6 := u6
  clear u6
  rw [List.nil_append] at hr
  have y6 := u6'.size
  intro b3 w7 u7 hrow
  have y7 := u7.size
  have zr := hro.blk
  have tr := tag_row (n := 1) (cap := 1) ⟨-7, 0, false, 0⟩ hrow rfl rfl
  refine append_own (c := cTag) (hr.old u7) (hro.old u7) tr (by omega) (fun x hx hm => by have := zr x hx; simp at hm; omega) (by decide) (by simp; omega) fun q w8 hq hqo u8 qn => ?_
  have y8 := u8.size
  have zq := hqo.blk
  have hql := hq.len
  have hqc := hqo.le
  simp at hql
  refine needIxLe (by omega) (by omega) ?_
  intro w9 u9
  have y9 := u9.size
  have v9 := (((v4.then u5).then u6').then u7).step0 u8 (fun x hx => by have := zr x hx; have := v4.size; omega)
  have v9 := v9.step0 u9 (by simp; have := u1.size; omega)
  have hs := (((hs.old u5).old u6').old u7).upd u8 (fun x hx hm => by have := zs x hx; have := zr x hm; omega)
  have hs := hs.upd u9 (fun x hx hm => by have := zs x hx; simp at hm; omega)
  have hD := (((hD.old u5).old u6').old u7).upd u8 (fun x hx hm => by have := zd x hx; have := zr x hm; omega)
  have hD := hD.upd u9 (fun x hx hm => by have := zd x hx; simp at hm; omega)
  have ha := ((ha.old u6').old u7).upd u8 (fun x hx hm => by have := za x hx; have := zr x hm; omega)
  have ha := ha.upd u9 (fun x hx hm => by have := za x hx; simp at hm; omega)
  have hao := ((hao.old u6').old u7).upd u8 (fun x hx hm => by have := za x hx; have := zr x hm; omega)
  have hao := hao.upd u9 (fun x hx hm => by have := za x hx; simp at hm; omega)
  have hq := hq.upd u9 (fun x hx hm => by have := zq x hx; simp at hm; omega)
  have hqo := hqo.upd u9 (fun x hx hm => by have := zq x hx; simp at hm; omega)
  have cut1 : (cutOf data).length ≤ 70000 := hcl
  have sub : ∀ w', Sees cTag w' q (tags ++ [⟨-7, 0, false, 0⟩]) → Sees cTag w' (q.sub 4 0 ((s.len : Int)).toNat q.cap) tags := by
    intro w' hq'
    have := hq'.sub (lo := 0) (hi := ((s.len : Int)).toNat) (mx := q.cap) (by omega) (by simp; omega) (by omega)
    rw [List.drop_zero, Int.toNat_natCast, hslen, List.take_left'  rfl] at this
    rw [Int.toNat_natCast, hslen]
    exact this
  refine c17 ha (by simp; omega) fun was w10 u10 hw hwo => ⟨_, rfl, kp u10, ?_⟩
  have y10 := u10.size
  have hin : ∀ w', SeesB w' al (cutOf data ++ [201, 202, 203, 204, 205]) → Own 0 1 w' al → SeesB w' (al.sub 1 0 (cutOf data).length al.cap) (cutOf data) := by
    intro w' h1 h2
    have := laid_in (l := cutOf data) (r := al) (w := w') (N := 0) (by rw [cut_cut]; exact h1) h2
    rwa [cut_cut] at this
  have dat := hin _ (ha.old u10) ((hao.old u10).mono (Nat.zero_le _))
  refine c30 (sub _ (hq.old u10)) dat.len hg0 (by omega) fun w11 u11 => ⟨_, rfl, kp u11, ?_⟩
  have y11 := u11.size
  refine c31' (sub _ ((hq.old u10).old u11)) (dat.old u11) hg0 (by omega) fun s5 w12 u12 h5 o5 => ⟨_, _, rfl, kp u12, ?_⟩
  have y12 := u12.size
  have v12 := ((v9.then u10).then u11).then u12
  refine c32' (((hs.old u10).old u11).old u12) (((hD.old u10).old u11).old u12) hg0 (by omega) fun s6 w13 u13 h6 o6 => ⟨_, _, rfl, kp u13, ?_⟩
  have y13 := u13.size
  have v13 := v12.then u13
  have hsl := serOf_len dst src tags type (cutOf data)
  intro J hJ
  refine brf (by simp) (brf (by simp) ?_)
  have HS := (((hs.old u10).old u11).old u12).old u13
  have HD := (((hD.old u10).old u11).old u12).old u13
  have HA := (((ha.old u10).old u11).old u12).old u13
  have HAo := (((hao.old u10).old u11).old u12).old u13
  have HQ := (((hq.old u10).old u11).old u12).old u13
  have HW := ((hw.old u11).old u12).old u13
  have zw := hwo.blk
  have z5 := o5.blk
  have z6 := o6.blk
  refine cSameT (h5.old u13) h6 (by omega) fun w14 u14 => ⟨_, rfl, kp u14, brf rfl ?_⟩
  refine cSameT (HA.old u14) (HW.old u14) (by simp; omega) fun w15 u15 => ⟨_, rfl, kp u15, brf rfl ?_⟩
  have y14 := u14.size
  have y15 := u15.size
  have c15 := (HQ.old u14).old u15
  refine c28T (sub _ c15) ((HS.old u14).old u15) (hin _ ((HA.old u14).old u15) (((HAo.old u14).old u15).mono (Nat.zero_le _))) ((HD.old u14).old u15) (fun _ _ => rfl) (fun _ _ => rfl) (by omega) (by omega) fun w16 u16 => ⟨_, rfl, kp u16, brf rfl ?_⟩
  have y16 := u16.size
  have c16 := c15.old u16
  have v16 := ((v13.then u14).then u15).then u16
  have ct := tag_cells c16 (i := (s.len : Int)) (by omega) (by simp; omega)
  refine needT c16 (by omega) (by simp; omega) ⟨_, ct.1, ?_⟩
  have e7 : ((tags ++ [(⟨-7, 0, false, 0⟩ : Tag)])[((s.len : Int)).toNat]'(by simp; omega)).tpid = -7 := by
    have : ((s.len : Int)).toNat = tags.length := by omega
    simp [this]
  rw [e7]
  refine brf rfl ?_
  repeat refine And.intro rfl ?_
  refine hJ _ ?_
  have H5 := (((h5.old u13).old u14).old u15).old u16
  have O5 := (((o5.old u13).old u14).old u15).old u16
  refine fill_loop H5 O5 (by omega) rfl (fun x hx hm => by have := z5 x hx; have := u1.size; simp at hm; omega) (fun I M n w w' h1 h2 => ⟨rfl, rfl, h1, h2⟩) fun w17 u17 H5 O5 => ?_
  have y17 := u17.size
  have v17 := v16.step0 u17 (fun x hx => by have := z5 x hx; have := v9.size; omega)
  intro b4 w18 u18 hr18
  have y18 := u18.size
  refine append_own (c := cU8) (new := [77, 77]) (H5.old u18) (O5.old u18) (rowB hr18 _ rfl rfl) (by omega) (fun x hx hm => by have := z5 x hx; have := u1.size; simp at hm; omega) (by decide) (by simp; omega) fun r5 w19 R5 RO5 u19 n5 => ?_
  have y19 := u19.size
  have v19 := (v17.then u18).step0 u19 (fun x hx => by have := z5 x hx; have := v9.size; omega)
  have k17 : ∀ {M sz : Nat} {w' : World} {x : Sl}, Own M sz w' x → w'.heap.size ≤ w11.heap.size → ∀ b ∈ x.blk, b ∉ s5.blk := fun o hle b hb hm => by have := o.blk b hb; have := z5 b hm; omega
  have kq := k17 hqo (by omega)
  have kw := k17 hwo (by omega)
  have ka := k17 hao (by omega)
  have k6 : ∀ b ∈ s6.blk, b ∉ s5.blk := fun b hb hm => by have := z6 b hb; have := z5 b hm; omega
  have HQ := ((c16.upd u17 kq).old u18).upd u19 kq
  have HA := (((((HA.old u14).old u15).old u16).upd u17 ka).old u18).upd u19 ka
  have HAo := (((((HAo.old u14).old u15).old u16).upd u17 ka).old u18).upd u19 ka
  have HW := (((((HW.old u14).old u15).old u16).upd u17 kw).old u18).upd u19 kw
  have H6 := (((((h6.old u14).old u15).old u16).upd u17 k6).old u18).upd u19 k6
  refine c31' (sub _ HQ) (hin _ HA (HAo.mono (Nat.zero_le _))) hg0 (by omega) fun s7 w20 u20 h7 o7 => ⟨_, _, rfl, kp u20, ?_⟩
  intro J hJ
  refine brf (by simp) ?_
  refine cSameT h7 (H6.old u20) (by omega) fun w21 u21 => ⟨_, rfl, kp u21, brf rfl ?_⟩
  refine cSameT ((HA.old u20).old u21) ((HW.old u20).old u21) (by simp; omega) fun w22 u22 => ⟨_, rfl, kp u22, brf rfl ?_⟩
  refine c25 fun w23 u23 => ⟨_, rfl, kp u23, brf rfl ?_⟩
  repeat refine And.intro rfl ?_
  refine hJ _ ?_
  refine all_loop (m := (serOf dst src tags type (cutOf data)).length + 2) ((((R5.old u20).old u21).old u22).old u23) (by simp; omega) (by rw [← rep_add]; rfl) (fun I M n w h1 h2 => ⟨rfl, rfl, h1, h2⟩) ?_
  exact ⟨rfl, (((v19.then u20).then u21).then u22).then u23⟩

theorem walk7 {H : Type} {W : World} (svs : List SV) (ds : List (DataW H)) (h : ArgsD X W [50] svs ds) (hsz : (DataW.weightsEach Try.prog [50] ds).all (· ≤ reachBytes) = true) :
    Ret Try.prog 7 svs W fun r w1 => r = .bool true ∧ Upd [] [] W w1 := by
  obtain ⟨x, _, d1, _, m1, rfl, rfl, h1, h⟩ := argsD_cons h
  obtain ⟨rfl, rfl⟩ := argsD_nil h
  obtain ⟨f, g, ts, ds', tags, type, data, rfl, hf, hg, hts, _, _, _, hd, hdb, hdc, _, _, _, _, _, rfl, hn⟩ := deep_frame h1
  exact c7 hf hg hts hd hdb hdc (few_tags hsz (hn.imp (fun h => ⟨h.1, by rw [h.2]; rfl⟩) id))
end Go.Vc.S5
