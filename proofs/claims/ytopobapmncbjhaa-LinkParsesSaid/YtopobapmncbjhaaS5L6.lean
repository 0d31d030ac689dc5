import Derived.Test.YtopobapmncbjhaaS5TxtC
import Derived.Test.YtopobapmncbjhaaS5G
import Derived.Test.YtopobapmncbjhaaS5Q
import Derived.Test.YtopobapmncbjhaaS5W
open Go Go.Vc Go.Proofs
set_option linter.unusedVariables false
set_option linter.unusedSimpArgs false
set_option autoImplicit false
namespace Go.Vc.S5

def pe (l : List Int) : Int := match parse l with | .error e => e | .ok _ => 0
def pf (l : List Int) : Nat → Int := match parse l with | .error _ => fun _ => 0 | .ok _ => fun i => bt l (i : Nat)
def pg (l : List Int) : Nat → Int := match parse l with | .error _ => fun _ => 0 | .ok _ => fun i => bt l ((6 + i : Nat) : Int)
def pty (l : List Int) : Int := match parse l with | .error _ => 0 | .ok (_, t) => w16 l (t : Nat)
def ptags (l : List Int) : List Tag := match parse l with | .error _ => [] | .ok (g, _) => g
def pdata (l : List Int) : List Int := match parse l with | .error _ => [] | .ok (_, t) => l.drop (t + 2)

section
variable {b : Sl} {l : List Int} {w : World} {R : SV → World → Prop}
theorem c26' (h : SeesB w b l) (hb : Byt l) (hc : b.len ≤ b.cap) (hl : l.length ≤ 140737488355328)
    (k : ∀ f g s d w1, (∀ i, i < 6 → f i = pf l i) → (∀ i, i < 6 → g i = pg l i) → Upd [] [] w w1 → Sees cTag w1 s (ptags l) → Own w.heap.size 4 w1 s → (ptags l).length ≤ 2 →
      (d = nilS ∧ pdata l = [] ∨ ∃ t, d = b.sub 1 t l.length l.length ∧ t ≤ l.length ∧ pdata l = l.drop t) → R (.tuple [frSV f g s (pty l) d, .int .i64 (pe l)]) w1) : Ret Try.prog 26 [.slice b] w R := by
  refine c26 h hb hc hl (fun e w1 he u => ?_) (fun tags t f g s w1 he hf hg hl2 ht u hs ho => ?_)
  · have := k (fun _ => 0) (fun _ => 0) nilS nilS w1 (by simp [pf, he]) (by simp [pg, he]) u (by simp only [ptags, he]; exact Sees.nil _ _ _ _) (Own.none _ _ _) (by simp [ptags, he]) (.inl ⟨rfl, by simp [pdata, he]⟩)
    simpa only [pty, pe, he] using this
  · have := k f g s _ w1 (by simpa [pf, he] using hf) (by simpa [pg, he] using hg) u (by simp only [ptags, he]; exact hs) ho (by simpa [ptags, he] using ht) (.inr ⟨t + 2, rfl, hl2, by simp [pdata, he]⟩)
    simpa only [pty, pe, he] using this
theorem c27' (h : SeesB w b l) (hb : Byt l) (hl : l.length ≤ 70368744177664)
    (k : ∀ f g s d w1, (∀ i, i < 6 → f i = pf l i) → (∀ i, i < 6 → g i = pg l i) → Upd [] [] w w1 → Sees cTag w1 s (ptags l) → Own w.heap.size 4 w1 s →
      SeesB w1 d (pdata l) → Own w.heap.size 1 w1 d → R (.tuple [frSV f g s (pty l) d, .int .i64 (pe l)]) w1) : Ret Try.prog 27 [.slice b] w R := by
  refine c27 h hb hl (fun e w1 he u => ?_) (fun tags t f g s d w1 he hf hg hl2 ht u hs ho hd hdo => ?_)
  · have := k (fun _ => 0) (fun _ => 0) nilS nilS w1 (by simp [pf, he]) (by simp [pg, he]) u (by simp only [ptags, he]; exact Sees.nil _ _ _ _) (Own.none _ _ _) (by simp only [pdata, he]; exact Sees.nil _ _ _ _) (Own.none _ _ _)
    simpa only [pty, pe, he] using this
  · have := k f g s d w1 (by simpa [pf, he] using hf) (by simpa [pg, he] using hg) u (by simp only [ptags, he]; exact hs) ho (by simp only [pdata, he]; exact hd) hdo
    simpa only [pty, pe, he] using this
end
theorem pdata_len (l : List Int) : (pdata l).length ≤ l.length := by
  unfold pdata
  split <;> simp
theorem xor255 : ∀ x : Fin 256, x.val ^^^ 255 = 255 - x.val := by decide +kernel
theorem ixor255 {v : Int} (h : 0 ≤ v ∧ v < 256) : ixor .u8 v 255 = 255 - v := by
  rw [ixor_u8 h.1 h.2 (by omega) (by omega)]
  have := xor255 ⟨v.toNat, by omega⟩
  simp only at this
  rw [show (255 : Int).toNat = 255 from rfl, this]
  omega
theorem sub_at {s : Sl} {sz l h m i : Nat} (hm : m ≠ l) (hp : s.ptr.isSome = true) : (s.sub sz l h m).at sz i = s.at sz (l + i) := by
  obtain ⟨a, ha⟩ := Option.isSome_iff_exists.1 hp
  simp only [Sl.sub, if_neg hm, Sl.at, ha, Option.map_some, Option.getD_some]
  rw [add_add, Nat.add_mul]
theorem bt_set_eq {l : List Int} {i : Nat} {v : Int} (h : i < l.length) {j : Int} (hj : j = i) : bt (l.set i v) j = v := by
  subst hj; simp [bt, h]

set_option maxRecDepth 10000 in
theorem c6 {b : Sl} {l : List Int} {w : World} (h : SeesB w b l) (hb : Byt l) (hc : b.len ≤ b.cap) : Ret Try.prog 6 [.slice b] w fun r w1 => r = .bool true ∧ Upd [] [] w w1 := by
  refine f6_of _ _ _ ?_
  unfold vc6
  refine c25 fun w1 u1 => ⟨_, rfl, brf rfl ?_⟩
  refine c16 (h.old u1) hc fun al w2 u2 ha hao => ⟨_, _, rfl, ?_⟩
  have hcb := cut_byt hb
  have hcl := cut_len l
  have hal := ha.len
  have hac := hao.le
  simp at hal
  have y1 := u1.size
  have y2 := u2.size
  have za := hao.blk
  generalize hC : cutOf l = C at *
  have hin : ∀ w', SeesB w' al (C ++ [201, 202, 203, 204, 205]) → SeesB w' (al.sub 1 0 C.length al.cap) C := by
    intro w' h'
    have := h'.subB (lo := 0) (hi := C.length) (mx := al.cap) (by omega) (by simp) (by omega)
    simpa using this
  refine c17 ha (by simp; omega) fun was w3 u3 hw hwo => ⟨_, rfl, ?_⟩
  have y3 := u3.size
  have zw := hwo.blk
  refine c26' (hin _ (ha.old u3)) hcb (by simp [Sl.sub]; omega) (by omega) fun f g ts d w4 hf hg u4 hts hto ht2 hd => ⟨_, _, _, _, _, _, rfl, ?_⟩
  have y4 := u4.size
  have zt := hto.blk
  have hpl := pdata_len C
  -- what d sees
  have seen : ∀ w', SeesB w' al (C ++ [201, 202, 203, 204, 205]) → SeesB w' d (pdata C) := by
    intro w' h'
    rcases hd with ⟨rfl, e⟩ | ⟨t, rfl, ht, e⟩
    · rw [e]; exact Sees.nil _ _ _ _
    · rw [e]
      have := (hin _ h').subB (lo := t) (hi := C.length) (mx := C.length) ht (Nat.le_refl _) (Nat.le_refl _)
      rwa [List.take_length] at this
  have dfull : d.cap ≤ d.len := by
    rcases hd with ⟨rfl, e⟩ | ⟨t, rfl, ht, e⟩
    · exact Nat.le_refl _
    · simp [Sl.sub]
  have dlen : d.len = (pdata C).length := (seen _ ((ha.old u3).old u4)).len
  have dat : ∀ k : Nat, k < d.len → d.at 1 k = al.at 1 (C.length - d.len + k) := by
    intro k hk
    rcases hd with ⟨rfl, e⟩ | ⟨t, rfl, ht, e⟩
    · simp at hk
    · have hp : al.ptr.isSome = true := ha.isSome (by decide) (by simp)
      have e1 : (Sl.sub (al.sub 1 0 C.length al.cap) 1 t C.length C.length).len = C.length - t := rfl
      rw [e1] at hk ⊢
      rw [sub_at (by omega) (by simp only [Sl.sub]; split <;> simp [hp]), sub_at (by omega) hp]
      congr 1
      omega
  intro b1 w5 u5
  have hb1 := u5.new (b := b1) (by simp)
  have y5 := u5.size
  refine c17 (hin _ ((((ha.old u3).old u4)).old u5)) (by omega) fun cp w6 u6 hcp hcpo => ⟨_, rfl, kp u6, ?_⟩
  have y6 := u6.size
  refine c27' hcp hcb (by omega) fun f2 g2 rs rd w7 hf2 hg2 u7 hrs hrso hrd hrdo => ⟨_, _, _, _, _, _, rfl, kp u7, ?_⟩
  have y7 := u7.size
  have zrs := hrso.blk
  have zrd := hrdo.blk
  intro b2 J hJ
  refine brf (by simp) fun w8 u8 => ?_
  have hb2 := u8.new (b := b2) (by simp)
  have y8 := u8.size
  have A8 := (((((ha.old u3).old u4).old u5).old u6).old u7).old u8
  have Ao8 := (((((hao.old u3).old u4).old u5).old u6).old u7).old u8
  have W8 := ((((hw.old u4).old u5).old u6).old u7).old u8
  have T8 := (((hts.old u5).old u6).old u7).old u8
  have To8 := (((hto.old u5).old u6).old u7).old u8
  have RS8 := hrs.old u8
  have RD8 := hrd.old u8
  have v8 := ((((((u1.then u2).then u3).then u4).then u5).then u6).then u7).then u8
  refine c28T T8 RS8 (seen _ A8) RD8 (fun i hi => by rw [hf i hi, hf2 i hi]) (fun i hi => by rw [hg i hi, hg2 i hi]) (by omega) (by omega) fun w9 u9 => ⟨_, rfl, kp u9, brf rfl ?_⟩
  have y9 := u9.size
  refine cSameT (A8.old u9) (W8.old u9) (by simp; omega) fun w10 u10 => ⟨_, rfl, kp u10, brf rfl ?_⟩
  have y10 := u10.size
  repeat refine And.intro rfl ?_
  refine hJ _ ?_
  clear hJ
  intro b3 w11 u11 hr11
  have y11 := u11.size
  have A11 := ((A8.old u9).old u10).old u11
  refine append_full (c := cU8) (new := [99, 99]) (seen _ A11) dfull (rowB hr11 _ rfl rfl) (by simp) (by decide) (by simp; omega) fun r w12 hr hro u12 => ?_
  have y12 := u12.size
  have hrl := hr.len
  simp at hrl
  have v12 := (((v8.then u9).then u10).then u11).then u12
  have A12 := A11.old u12
  have W12 := (((W8.old u9).old u10).old u11).old u12
  intro J hJ
  refine cSameT A12 W12 (by simp; omega) fun w13 u13 => ⟨_, rfl, kp u13, brf rfl ?_⟩
  have y13 := u13.size
  rw [wr_i64 (by omega) (by omega)]
  refine brf (by simp; omega) ?_
  repeat refine And.intro rfl ?_
  refine hJ _ ?_
  clear hJ
  have v13 := v12.then u13
  have A13 := A12.old u13
  have Ao13 := ((((Ao8.old u9).old u10).old u11).old u12).old u13
  have W13 := W12.old u13
  have T13 := ((((T8.old u9).old u10).old u11).old u12).old u13
  have To13 := ((((To8.old u9).old u10).old u11).old u12).old u13
  have RS13 := ((((RS8.old u9).old u10).old u11).old u12).old u13
  have RD13 := ((((RD8.old u9).old u10).old u11).old u12).old u13
  have aw : ∀ x ∈ was.blk, x ∉ al.blk := fun x hx hm => by have := zw x hx; have := za x hm; omega
  have at_ : ∀ x ∈ ts.blk, x ∉ al.blk := fun x hx hm => by have := zt x hx; have := za x hm; omega
  have ars : ∀ x ∈ rs.blk, x ∉ al.blk := fun x hx hm => by have := zrs x hx; have := za x hm; omega
  have ard : ∀ x ∈ rd.blk, x ∉ al.blk := fun x hx hm => by have := zrd x hx; have := za x hm; omega
  have hslen : (al.sub 1 0 C.length al.cap).len = C.length := rfl
  have HB : Byt (C ++ [201, 202, 203, 204, 205]) := hcb.app (by simp [Byt])
  refine ⟨fun n w' => Upd al.blk [] w13 w' ∧ SeesB w' al (C ++ [201, 202, 203, 204, 205]) ∧ Own w1.heap.size 1 w' al ∧ ∃ k : Nat, n = k ∧ k ≤ d.len, fun n _ => (d.len - n).toNat, ⟨(Upd.refl _).wide (by simp), A13, Ao13, 0, rfl, by omega⟩, ?_⟩
  rintro n w14 ⟨u14, A14, Ao14, k, rfl, hk⟩
  have D14 := seen _ A14
  refine brd (fun hlt => ?_) (fun hge => ?_)
  · have hk2 : k < d.len := by omega
    have e0 := dat k hk2
    have bv := HB.bt ((C.length - d.len + k : Nat) : Int)
    have ebt : ∀ w', SeesB w' al (C ++ [201, 202, 203, 204, 205]) → w'.cell? (d.at 1 k) = some (.int .u8 (bt (C ++ [201, 202, 203, 204, 205]) ((C.length - d.len + k : Nat) : Int))) := fun w' h' => by
      rw [e0]; exact byteC h' _ (by simp; omega)
    refine needB D14 (by omega) (by omega) ⟨_, (by rw [Int.toNat_natCast]; exact ebt _ A14), needB D14 (by omega) (by omega) fun w15 u15 => ?_⟩
    rw [Int.toNat_natCast, e0, ixor255 bv]
    refine own_set (c := cU8) (x := 255 - bt (C ++ [201, 202, 203, 204, 205]) ((C.length - d.len + k : Nat) : Int)) (A14.old u15) (Ao14.old u15) (by decide) (by simp; omega) rfl (fun x hx hm => by have := za x hx; simp at hm; omega) fun w16 A16 Ao16 u16 => ?_
    have hix : wr .i64 (wr .i64 (((al.sub 1 0 C.length al.cap).len : Int) - (d.len : Int)) + (k : Int)) = ((C.length - d.len + k : Nat) : Int) := by
      rw [hslen, wr_i64 (x := (C.length : Int) - d.len) (by omega) (by omega), wr_i64 (by omega) (by omega)]; omega
    have u1416 := ((u15.wide (m' := al.blk) (by simp)).step u16 (fun x hx => .inr hx))
    have W16 := (W13.upd u14 aw).upd u1416 aw
    rw [hix]
    refine needB A16 (by omega) (by simp; omega) ⟨_, A16.byte (by omega) (by simp; omega), needB W16 (by omega) (by simp; omega) ⟨_, W16.byte (by omega) (by simp; omega), ?_⟩⟩
    rw [bt_set_eq (by simp; omega) rfl, ixor255 bv]
    refine brf (by simp) ?_
    have e00 : ∀ {X : Prop}, X → Need (decide (0 ≤ (k : Int)) && decide ((k : Int) < (d.len : Int)) && d.ptr.isSome) X := fun x => needB D14 (by omega) (by omega) x
    refine e00 ⟨_, (by rw [byteC A16 _ (by simp; omega), bt_set_eq (by simp; omega) rfl]), e00 fun w17 u17 => ?_⟩
    rw [ixor255 (by omega)]
    refine own_set (c := cU8) (x := bt (C ++ [201, 202, 203, 204, 205]) ((C.length - d.len + k : Nat) : Int)) (A16.old u17) (Ao16.old u17) (by decide) (by simp; omega) (by rw [show (255 : Int) - (255 - bt (C ++ [201, 202, 203, 204, 205]) ((C.length - d.len + k : Nat) : Int)) = bt (C ++ [201, 202, 203, 204, 205]) ((C.length - d.len + k : Nat) : Int) by omega]; rfl) (fun x hx hm => by have := za x hx; simp at hm; omega) fun w18 A18 Ao18 u18 => ?_
    repeat refine And.intro rfl ?_
    refine ⟨⟨(u14.step u1416 (fun x hx => .inr hx)).step ((u17.wide (m' := al.blk) (by simp)).step u18 (fun x hx => .inr hx)) (fun x hx => .inr hx), ?_, Ao18, k + 1, wr_succ (by omega), by omega⟩, by rw [wr_succ (by omega)]; (try dsimp only); omega⟩
    rw [List.set_set, bt_nat (by simp; omega), List.set_getElem_self] at A18
    exact A18
  have y14 := u14.size
  have v14 := v13.step0 u14 (fun x hx => by have := za x hx; have := u1.size; omega)
  have W14 := W13.upd u14 aw
  have T14 := T13.upd u14 at_
  have To14 := To13.upd u14 at_
  have RS14 := RS13.upd u14 ars
  have RD14 := RD13.upd u14 ard
  have tl := hts.len
  refine ⟨fun n w' => Upd ts.blk [] w14 w' ∧ Own w3.heap.size 4 w' ts ∧ ∃ k : Nat, n = k ∧ k ≤ ts.len ∧ Sees cTag w' ts (List.replicate k ⟨-1, 0, false, 0⟩ ++ (ptags C).drop k), fun n _ => (ts.len - n).toNat, ⟨(Upd.refl _).wide (by simp), To14, 0, rfl, by omega, by simpa using T14⟩, ?_⟩
  rintro n w15 ⟨u15, To15, k, rfl, hk, T15⟩
  refine brd (fun hlt => ?_) (fun hge => ?_)
  · refine needT T15 (by omega) (by simp; omega) (own_set (c := cTag) (x := ⟨-1, 0, false, 0⟩) T15 To15 (by decide) (by simp; omega) rfl (fun x hx hm => by have := zt x hx; simp at hm; omega) fun w16 T16 To16 u16 => ?_)
    repeat refine And.intro rfl ?_
    refine ⟨⟨u15.step u16 (fun x hx => .inr hx), To16, k + 1, wr_succ (by omega), by omega, ?_⟩, by rw [wr_succ (by omega)]; (try dsimp only); omega⟩
    have e : (List.replicate k (⟨-1, 0, false, 0⟩ : Tag) ++ (ptags C).drop k).set k ⟨-1, 0, false, 0⟩ = List.replicate (k + 1) ⟨-1, 0, false, 0⟩ ++ (ptags C).drop (k + 1) := by
      rw [List.set_append_right _ _ (by simp), List.length_replicate, Nat.sub_self, List.drop_eq_getElem_cons (show k < (ptags C).length by omega), List.set_cons_zero, List.replicate_succ', List.append_assoc]
      rfl
    rw [Int.toNat_natCast] at T16
    rwa [e] at T16
  have hk2 : k = (ptags C).length := by omega
  subst hk2
  rw [List.drop_length, List.append_nil] at T15
  have y15 := u15.size
  have v15 := v14.step0 u15 (fun x hx => by have := zt x hx; omega)
  have ta : ∀ x ∈ al.blk, x ∉ ts.blk := fun x hx hm => at_ x hm hx
  have tw : ∀ x ∈ was.blk, x ∉ ts.blk := fun x hx hm => by have := zw x hx; have := zt x hm; omega
  have trs : ∀ x ∈ rs.blk, x ∉ ts.blk := fun x hx hm => by have := zrs x hx; have := zt x hm; omega
  have trd : ∀ x ∈ rd.blk, x ∉ ts.blk := fun x hx hm => by have := zrd x hx; have := zt x hm; omega
  intro b4 w16 u16 hr16
  have y16 := u16.size
  refine append_own (c := cTag) (T15.old u16) (To15.old u16) (tag_row (n := 1) (cap := 1) ⟨-1, 0, false, 0⟩ hr16 rfl rfl) (by omega) (fun x hx hm => by have := zt x hx; simp at hm; omega) (by decide) (by simp; omega) fun q w17 Q17 Qo17 u17 qn => ?_
  have y17 := u17.size
  have v17 := (v15.then u16).step0 u17 (fun x hx => by have := zt x hx; omega)
  have A17 := ((A14.upd u15 ta).old u16).upd u17 ta
  have W17 := ((W14.upd u15 tw).old u16).upd u17 tw
  have RS17 := ((RS14.upd u15 trs).old u16).upd u17 trs
  have RD17 := ((RD14.upd u15 trd).old u16).upd u17 trd
  refine c26' (hin _ A17) hcb (by simp [Sl.sub]; omega) (by omega) fun f4 g4 ts4 d4 w18 hf4 hg4 u18 hts4 hto4 _ hd4 => ⟨_, _, _, _, _, _, rfl, kp u18, ?_⟩
  intro b5 J hJ
  refine brf (by simp) fun w19 u19 => ?_
  have A19 := (A17.old u18).old u19
  have D19 : SeesB w19 d4 (pdata C) := by
    rcases hd4 with ⟨rfl, e⟩ | ⟨t, rfl, ht, e⟩
    · rw [e]; exact Sees.nil _ _ _ _
    · rw [e]
      have := (hin _ A19).subB (lo := t) (hi := C.length) (mx := C.length) ht (Nat.le_refl _) (Nat.le_refl _)
      rwa [List.take_length] at this
  refine c28T (hts4.old u19) ((RS17.old u18).old u19) D19 ((RD17.old u18).old u19) (fun i hi => by rw [hf4 i hi, hf2 i hi]) (fun i hi => by rw [hg4 i hi, hg2 i hi]) (by omega) (by omega) fun w20 u20 => ⟨_, rfl, kp u20, brf rfl ?_⟩
  refine cSameT (A19.old u20) (((W17.old u18).old u19).old u20) (by simp; omega) fun w21 u21 => ⟨_, rfl, kp u21, brf rfl ?_⟩
  refine c25 fun w22 u22 => ⟨_, rfl, kp u22, brf rfl ?_⟩
  repeat refine And.intro rfl ?_
  refine hJ _ ?_
  clear hJ
  have v22 := ((((v17.then u18).then u19).then u20).then u21).then u22
  have Q22 := ((((Q17.old u18).old u19).old u20).old u21).old u22
  have ql := Q22.len
  have eq : List.replicate (ptags C).length (⟨-1, 0, false, 0⟩ : Tag) ++ [⟨-1, 0, false, 0⟩] = List.replicate ((ptags C).length + 1) ⟨-1, 0, false, 0⟩ := List.replicate_succ'.symm
  rw [eq] at Q22 ql
  rw [List.length_replicate] at ql
  refine ⟨fun n w' => w' = w22 ∧ ∃ k : Nat, n = k ∧ k ≤ q.len, fun n _ => (q.len - n).toNat, ⟨rfl, 0, rfl, by omega⟩, ?_⟩
  rintro n w' ⟨rfl, k, rfl, hk⟩
  refine brd (fun hlt => ?_) (fun hge => ⟨rfl, v22⟩)
  have hc := tag_cells Q22 (i := (k : Int)) (by omega) (by rw [List.length_replicate]; omega)
  refine needT Q22 (by omega) (by rw [List.length_replicate]; omega) ⟨_, hc.1, _, hc.2.1, _, hc.2.2.1, _, hc.2.2.2, ?_⟩
  rw [List.getElem_replicate]
  refine brf (by simp) ?_
  repeat refine And.intro rfl ?_
  exact ⟨⟨rfl, k + 1, wr_succ (by omega), by omega⟩, by rw [wr_succ (by omega)]; (try dsimp only); omega⟩

theorem walk6 {H : Type} {W : World} (svs : List SV) (ds : List (DataW H)) (h : ArgsD X W [22] svs ds) :
    Ret Try.prog 6 svs W fun r w1 => r = .bool true ∧ Upd [] [] W w1 := by
  obtain ⟨x, _, d1, _, m1, rfl, rfl, h1, h⟩ := argsD_cons h
  obtain ⟨rfl, rfl⟩ := argsD_nil h
  obtain ⟨s, l, rfl, hs, hb, hc, _⟩ := deep_bytes (t := 22) (e := 5) rfl rfl h1
  exact c6 hs hb hc
end Go.Vc.S5
