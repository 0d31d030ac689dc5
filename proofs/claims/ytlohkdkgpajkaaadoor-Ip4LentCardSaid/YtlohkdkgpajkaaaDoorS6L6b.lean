import Derived.Test.YtlohkdkgpajkaaaDoorS6L6
open Go Go.Vc Go.Proofs
set_option linter.unusedVariables false
set_option linter.unusedSimpArgs false
set_option autoImplicit false
namespace Go.Vc.S6
theorem putL_byt {l : List Opt} (h : ∀ o ∈ l, Byt o.data) : Byt (putL l) := by
  unfold putL
  split
  · exact putO_byt h
  · exact Byt.nil
theorem serL_byt {v : IpV} (f : Fit v) : Byt (serL v) := by
  unfold serL
  split
  · rename_i hc; exact ser_byt hc f
  · exact Byt.nil
section
variable {w : World} {R : SV → World → Prop}
set_option maxRecDepth 40000 in
set_option maxHeartbeats 1600000 in
theorem c6 {v : IpV} {so sd sl turns : Sl} {os ol : List (Int × Sl)} {l2 : List Opt} {ts : List (Int × Int)} (hg : Sees cI64 w wid4 widths4) (h : Hand w v so sd os) (hdl : v.data.length ≤ 140737488351232) (hol : v.opts.length ≤ 4398046511000) (hod : ∀ o ∈ v.opts, o.data.length ≤ 140737488351232)
    (h2 : Opts w sl l2 ol) (hb2 : ∀ o ∈ l2, Byt o.data) (hl2 : l2.length ≤ 4398046511000) (hd2 : ∀ o ∈ l2, o.data.length ≤ 140737488351232) (ht : Sees cT w turns ts) (hv : ∀ y ∈ ts, -9223372036854775808 ≤ y.1 ∧ y.1 ≤ 9223372036854775807) :
    Ret Tryd.prog 6 [ipSV v so sd, .slice sl, .slice turns] w fun r w1 => r = .bool true ∧ Upd [] [] w w1 := by
  refine f6_of _ _ _ _ _ _ _ _ _ _ _ _ _ _ _ _ _ ?_
  unfold vc6
  have htn := ht.len
  intro bh w1 u1
  have nh := u1.new (b := bh) (by simp)
  refine c18 (hg.old u1) fun w2 u2 => ⟨_, rfl, kp u2, brf rfl ?_⟩
  have v2 := u1.then u2
  refine c26D (va := v) (h.opts.old v2) (by omega) (fun o ho => by have := hod o ho; omega) (h.data.old v2) (by omega) fun s os' d w3 u3 hL hD oD hap => ⟨_, _, _, _, _, _, _, _, _, _, _, _, _, rfl, kp u3, ?_⟩
  intro b4 w4 u4
  have n4 := u4.new (b := b4) (by simp)
  have v4 := (v2.then u3).then u4
  refine c26D (va := { ipZ with opts := l2 }) (h2.old v4) (by show l2.length ≤ _; omega) (fun o ho => by have := hd2 o ho; omega) (Sees.nil _ _ _ _) (by simp [ipZ]) fun s2 os2 d2 w5 u5 hL2 _ _ _ => ⟨_, _, _, _, _, _, _, _, _, _, _, _, _, rfl, kp u5, ?_⟩
  intro bd br1 br2 bk w6 u6 hr7 of7 hr8 of8 hr9 of9 hr10 of10
  have nd := u6.new (b := bd) (by simp)
  have nr1 := u6.new (b := br1) (by simp)
  have nr2 := u6.new (b := br2) (by simp)
  have nk := u6.new (b := bk) (by simp)
  have y1 := u1.size; have y2 := u2.size; have y3 := u3.size; have y4 := u4.size; have y5 := u5.size; have y6 := u6.size
  have v6 := (v4.then u5).then u6
  have f7 := of7; have f8 := of8; have f9 := of9; have f10 := of10
  unfold Off at f7 f8 f9 f10
  simp only [List.mem_cons, List.not_mem_nil, or_false, not_or] at f7 f8 f9 f10
  have oDb := oD.blk
  have hLlt := hL.lt
  have hL2lt := hL2.lt
  -- the colours at first
  let c0 : Nat → Nat := fun x => if x ∈ d.blk then 1 else if x ∈ lstB s os' then 2 else if x ∈ lstB s2 os2 then 3 else if x = bd then 4 else if x = br1 then 5 else if x = br2 then 6 else if x = bk then 7 else 0
  have q1 : Col c0 1 d.blk := fun x hx => by simp only [c0]; rw [if_pos hx]
  have q2 : Col c0 2 (lstB s os') := fun x hx => by
    simp only [c0]
    rw [if_neg (fun hm => hap x hm hx), if_pos hx]
  have q3 : Col c0 3 (lstB s2 os2) := fun x hx => by
    have := hL2lt x hx
    simp only [c0]
    rw [if_neg (fun hm => by have := oDb x hm; omega), if_neg (fun hm => by have := hLlt x hm; omega), if_pos hx]
  have rest : ∀ x, (x < w2.heap.size ∨ (w3.heap.size ≤ x ∧ x < w4.heap.size) ∨ w5.heap.size ≤ x) → x ∉ d.blk ∧ x ∉ lstB s os' ∧ x ∉ lstB s2 os2 := fun x hx => by
    refine ⟨fun hm => ?_, fun hm => ?_, fun hm => ?_⟩
    · have := oDb x hm; omega
    · have := hLlt x hm; omega
    · have := hL2lt x hm; omega
  have col : ∀ x, (x < w2.heap.size ∨ (w3.heap.size ≤ x ∧ x < w4.heap.size) ∨ w5.heap.size ≤ x) → c0 x = if x = bd then 4 else if x = br1 then 5 else if x = br2 then 6 else if x = bk then 7 else 0 := fun x hx => by
    obtain ⟨a, b, c⟩ := rest x hx
    simp only [c0]
    rw [if_neg a, if_neg b, if_neg c]
  have Bs6 : Bs w.heap.size w6 c0 bk d s s2 os' os2 v.data v.opts l2 0 := ⟨((hD.old u4).old u5).old u6, (((oD.old u4).old u5).old u6).mono (by omega), (((hL.old u4).old u5).old u6).mono (by omega), ((hL2.old u6)).mono (by omega), ⟨[bk], BkAt.start hr10, fun x hx => by
    rw [List.mem_singleton] at hx
    subst hx
    rw [col x (by omega), if_neg (by omega), if_neg (by omega), if_neg (by omega), if_pos rfl]⟩, by omega, q1, q2, q3⟩
  have hx7 : Bx w6 bd [.sl ⟨none, 0, 0⟩, .int 0] := Bx.mk' hr7 rfl
  have Dr6 : Dr w.heap.size w6 c0 bd br1 br2 := ⟨⟨⟨none, 0, 0⟩, ⟨⟨0, hx7⟩, ⟨[], Sees.nil _ _ _ _, by simp⟩, Own.none _ _ _, by simp [Sl.blk], by omega⟩, fun x hx => by
      have hx : x = bd := by simpa [dqB, Sl.blk] using hx
      subst hx
      rw [col x (by omega), if_pos rfl]⟩,
    ⟨[br1], RmAt.start hr8 (by omega), fun x hx => by
      rw [List.mem_singleton] at hx
      subst hx
      rw [col x (by omega), if_neg (by omega), if_pos rfl]⟩,
    ⟨[br2], RmAt.start hr9 (by omega), fun x hx => by
      rw [List.mem_singleton] at hx
      subst hx
      rw [col x (by omega), if_neg (by omega), if_neg (by omega), if_pos rfl]⟩⟩
  have Cb6 : Col c0 0 [bh, b4] := fun x hx => by
    simp only [List.mem_cons, List.not_mem_nil, or_false] at hx
    rcases hx with rfl | rfl
    · rw [col x (by omega), if_neg (by omega), if_neg (by omega), if_neg (by omega), if_neg (by omega)]
    · rw [col x (by omega), if_neg (by omega), if_neg (by omega), if_neg (by omega), if_neg (by omega)]
  have lb6 : ∀ x ∈ [bh, b4], x < w6.heap.size := by simp; omega
  refine ⟨fun n w' => ∃ (q : Nat) (c : Nat → Nat) (o' : List Opt) (d' : List Int) (l' : List Opt), n = q ∧ q ≤ 12 ∧ Upd [] [] w w' ∧ Bs w.heap.size w' c bk d s s2 os' os2 d' o' l' (4 * q) ∧ Dr w.heap.size w' c bd br1 br2 ∧ Col c 0 [bh, b4] ∧ (∀ x ∈ [bh, b4], x < w'.heap.size) ∧ d'.length = v.data.length ∧ frm o' = frm v.opts ∧ frm l' = frm l2 ∧ Byt d' ∧ (∀ o ∈ o', Byt o.data) ∧ ∀ o ∈ l', Byt o.data, fun n _ => (12 - n).toNat,
    ⟨0, c0, v.opts, v.data, l2, rfl, by omega, v6, Bs6, Dr6, Cb6, lb6, rfl, rfl, rfl, h.fit.data, h.fit.opts, hb2⟩, ?_⟩
  rintro n w7 ⟨q, c, o', d', l', rfl, hq, U7, T, Z, Cb, lb, ed, eo, el, bd', bo', bl'⟩
  clear Bs6 Dr6 Cb6 lb6 col rest q1 q2 q3 hx7 hr7 hr8 hr9 hr10 of7 of8 of9 of10
  clear_value c0
  clear c0
  have NN : w.heap.size ≤ w7.heap.size := U7.size
  intro J hJ
  have fin : Ret Tryd.prog 42 [.ptr (some ⟨bk, 0, none⟩)] w7 fun r w8 => ∃ b : Bool, r = .bool b ∧ Keeps [bh, b4] w7 w8 ∧ (SV.bool b = .bool true ∧ Upd [] [] w w8) := by
    obtain ⟨hd, hB, hcB⟩ := T.book
    exact hB.settle (by omega) NN fun w8 u8 => ⟨_, rfl, kpm u8 lb (fun x hx hm => Cb.off hcB (by decide) x hx hm), rfl, U7.step0 u8 (fun x hx => (hB.lt T.le x hx).1)⟩
  refine brd (fun h1 => brd (fun h2 => ?_) (fun _ => fin)) (fun _ => fin)
  (repeat refine And.intro rfl ?_)
  refine hJ _ ?_
  clear hJ fin
  intro J2 hJ2
  have next : ∀ (w' : World) (c' : Nat → Nat) (o2 : List Opt) (d2 : List Int) (l3 : List Opt), Upd [] [] w w' → Bs w.heap.size w' c' bk d s s2 os' os2 d2 o2 l3 (4 * q + 1 + 1 + 1 + 1) → Dr w.heap.size w' c' bd br1 br2 → Col c' 0 [bh, b4] → (∀ x ∈ [bh, b4], x < w'.heap.size) → d2.length = d'.length → frm o2 = frm o' → frm l3 = frm l' → Byt d2 → (∀ o ∈ o2, Byt o.data) → (∀ o ∈ l3, Byt o.data) → J2 w' := by
    intro w' c' o2 d2 l3 a1 a2 a3 a4 a5 a6 a7 a8 a9 a10 a11
    refine hJ2 _ ?_
    (repeat refine And.intro rfl ?_)
    refine ⟨⟨q + 1, c', o2, d2, l3, wr_succ (by omega), by omega, a1, ?_, a3, a4, a5, a6.trans ed, a7.trans eo, a8.trans el, a9, a10, a11⟩, by rw [wr_succ (by omega)]; (try dsimp only); omega⟩
    have e : 4 * (q + 1) = 4 * q + 1 + 1 + 1 + 1 := by omega
    rw [e]
    exact a2
  clear hJ2
  intro b11 w8 u8
  have n11 := u8.new (b := b11) (by simp)
  have B8 := T.next u8 (by simp) 0
  have Z8 := Z.next u8 (by simp) 0
  have z8 := u8.size
  have L8 : Col (rc c w7.heap.size 0) 0 [bh, b4, b11] := fun x hx => by
    unfold rc
    split
    · simp only [List.mem_cons, List.not_mem_nil, or_false] at hx
      rcases hx with e | e | e
      · exact Cb x (by simp [e])
      · exact Cb x (by simp [e])
      · omega
    · rfl
  have lb8 : ∀ x ∈ [bh, b4, b11], x < w8.heap.size := fun x hx => by
    simp only [List.mem_cons, List.not_mem_nil, or_false] at hx
    have e1 := lb bh (by simp)
    have e2 := lb b4 (by simp)
    rcases hx with e | e | e <;> omega
  generalize rc c w7.heap.size 0 = c8 at *
  clear T Z Cb
  have odl := frm_le eo hod
  have ool := frm_len eo
  have od2 := frm_le el hd2
  have ol2' := frm_len el
  obtain ⟨room, a1, a2⟩ := Z8.desk
  obtain ⟨hd1, r1, r1c⟩ := Z8.rm1
  obtain ⟨hd2', r2, r2c⟩ := Z8.rm2
  clear Z8
  have r1lt := r1.lt.2
  have r2lt := r2.lt.2
  have a1lt := a1.lt
  -- lent
  refine a1.lend B8.dat (by omega) (fun x hx => ⟨(B8.od.blk x hx).2, B8.cd.off a2 (by decide) x hx⟩) fun room' K w9 u9 hDk hK nD => ⟨_, rfl, kpm u9 lb8 (L8.off a2 (by decide)), fun w10 u10 => ?_⟩
  have eln : Int.toNat (d.len : Int) = d'.length := by rw [Int.toNat_natCast]; exact B8.dat.len
  rw [eln]
  have z9 := u9.size; have z10 := u10.size
  have B9 := B8.next u9 (fun x hx => by have := a2 x hx; omega) 4
  have L9 := L8.rc lb8 (j := 4)
  have a9 := a2.new nD
  have hd9 : ∀ x ∈ dqB (bd, room'), x < w9.heap.size := ((Dq.ofDsk hDk hK a1.le).lt · · |>.2)
  have r19 := r1.upd u9 (r1c.off a2 (by decide))
  have r29 := r2.upd u9 (r2c.off a2 (by decide))
  have r1c9 := r1c.rc (fun x hx => (r1lt x hx).2) (j := 4)
  have r2c9 := r2c.rc (fun x hx => (r2lt x hx).2) (j := 4)
  generalize rc c8 w8.heap.size 4 = c9 at *
  have cb9 : c9 b11 = 0 := L9 b11 (by simp)
  have C11 : Col c9 0 [b11] := fun x hx => by rw [List.mem_singleton] at hx; subst hx; exact cb9
  have B10 := B9.same u10 (fun x hx => by have := C11 x hx; omega)
  have hD10 := hDk.upd u10 (fun hm => a9.off C11 (by decide) bd (by simp [dqB]) hm) (fun x hx => a9.off C11 (by decide) x (by simp [dqB, hx]))
  have r110 := r19.upd u10 (r1c9.off C11 (by decide))
  have r210 := r29.upd u10 (r2c9.off C11 (by decide))
  -- the first rooms
  refine c32 r110 B10.lst.opts (fun x hx => ?_) (by omega) (fun o ho => by have := odl o ho; omega) fun p1 o1 hd1' w11 u11 hLd1 nw1 => ⟨_, rfl, kpm u11 (fun x hx => by have := lb8 x hx; omega) (L9.off r1c9 (by decide)), fun w12 u12 => ?_⟩
  · have hx : x ∈ lstB s os' := lstB_mem.2 hx
    exact ⟨(B10.lst.lt x hx).2, B10.cl.off r1c9 (by decide) x hx⟩
  have z11 := u11.size; have z12 := u12.size
  have B11 := B10.next u11 (fun x hx => by have := r1c9 x hx; omega) 5
  have hD11 := hD10.upd u11 (fun hm => a9.off r1c9 (by decide) bd (by simp [dqB]) hm) (fun x hx => a9.off r1c9 (by decide) x (by simp [dqB, hx]))
  have r211 := r210.upd u11 (r2c9.off r1c9 (by decide))
  have L11 := L9.rc (z := w10.heap.size) (j := 5) (fun x hx => by have := lb8 x hx; omega)
  have a11 := a9.rc (z := w10.heap.size) (j := 5) (fun x hx => by have := hd9 x hx; omega)
  have r2c11 := r2c9.rc (z := w10.heap.size) (j := 5) (fun x hx => by have := r2lt x hx; omega)
  have r1c11 := r1c9.new nw1
  have hd1lt := hLd1.at.lt.2
  generalize rc c9 w10.heap.size 5 = c11 at *
  have C12 : Col c11 0 [b11] := fun x hx => by rw [List.mem_singleton] at hx; subst hx; exact L11 x (by simp)
  have B12 := B11.same u12 (fun x hx => by have := C12 x hx; omega)
  have hD12 := hD11.upd u12 (fun hm => a11.off C12 (by decide) bd (by simp [dqB]) hm) (fun x hx => a11.off C12 (by decide) x (by simp [dqB, hx]))
  have r212 := r211.upd u12 (r2c11.off C12 (by decide))
  have Ld12 := hLd1.upd u12 (r1c11.off C12 (by decide))
  -- the second rooms
  refine c32 r212 B12.lst2.opts (fun x hx => ?_) (by omega) (fun o ho => by have := od2 o ho; omega) fun p2 o2 hd2'' w13 u13 hLd2 nw2 => ⟨_, rfl, kpm u13 (fun x hx => by have := lb8 x hx; omega) (L11.off r2c11 (by decide)), ?_⟩
  · have hx : x ∈ lstB s2 os2 := lstB_mem.2 hx
    exact ⟨(B12.lst2.lt x hx).2, B12.cl2.off r2c11 (by decide) x hx⟩
  have z13 := u13.size
  have B13 := B12.next u13 (fun x hx => by have := r2c11 x hx; omega) 6
  have hD13 := hD12.upd u13 (fun hm => a11.off r2c11 (by decide) bd (by simp [dqB]) hm) (fun x hx => a11.off r2c11 (by decide) x (by simp [dqB, hx]))
  have Ld13 := Ld12.upd u13 (r1c11.off r2c11 (by decide))
  have L13 := L11.rc (z := w12.heap.size) (j := 6) (fun x hx => by have := lb8 x hx; omega)
  have a13 := a11.rc (z := w12.heap.size) (j := 6) (fun x hx => by have := hd9 x hx; omega)
  have r1c13 := r1c11.rc (z := w12.heap.size) (j := 6) (fun x hx => by have := hd1lt x hx; omega)
  have r2c13 := r2c11.new nw2
  have hd2lt := hLd2.at.lt.2
  generalize rc c11 w12.heap.size 6 = c13 at *
  have U13 : Upd [] [] w w13 := by
    have k1 := U7.then u8
    have k2 := k1.step0 u9 (fun x hx => (a1lt x hx).1)
    have k3 := k2.step0 u10 (fun x hx => by rw [List.mem_singleton] at hx; omega)
    have k4 := k3.step0 u11 (fun x hx => (r1lt x hx).1)
    have k5 := k4.step0 u12 (fun x hx => by rw [List.mem_singleton] at hx; omega)
    exact k5.step0 u13 (fun x hx => (r2lt x hx).1)
  clear B8 B9 B10 B11 B12 hDk hD10 hD11 hD12 r1 r2 r19 r29 r110 r210 r211 r212 hLd1 Ld12 L8 L9 L11 a2 a9 a11 r1c r2c r1c9 r2c9 r1c11 r2c11 a1 cb9 C11 C12 nw1 nw2 nD
  have elen : ∀ o ∈ o', o.data.length ≤ 140737488351232 := odl
  have hand : Hand w13 { v with opts := o', data := d' } p1 (room'.sub 1 0 d'.length room'.cap) o1 := ⟨Ld13.opts.1, by show o'.length ≤ _; omega, fun o ho => by have := odl o ho; omega, hD13.lent rfl, by show d'.length ≤ _; omega, ⟨h.fit.sa, h.fit.da, bo', bd'⟩, by have := hD13.own.le; have := hD13.len; have := hD13.le; simp [Sl.sub]; omega, Ld13.opts.2.1, Ld13.opts.2.2.1⟩
  have G13 := hg.old U13
  refine c33H (v := { v with opts := o', data := d' }) hand fun w14 u14 => ⟨_, rfl, kp u14, ?_⟩
  refine c25H (v := { v with opts := o', data := d' }) (G13.old u14) (hand.old u14) fun s7 w15 u15 h7 k7 => ⟨_, _, rfl, kp u15, ?_⟩
  have x15 := u14.then u15
  refine c25H (v := { v with opts := o', data := d' }) (G13.old x15) (hand.old x15) fun s8 w16 u16 h8 k8 => ⟨_, _, rfl, kp u16, ?_⟩
  have x16 := x15.then u16
  refine c27 (hLd2.opts.1.old x16) (by omega) (fun o ho => by have := od2 o ho; omega) fun s9 w17 u17 h9 k9 => ⟨_, _, rfl, kp u17, ?_⟩
  have x17 := x16.then u17
  refine c27 (hLd2.opts.1.old x17) (by omega) (fun o ho => by have := od2 o ho; omega) fun s10 w18 u18 h10 k10 => ⟨_, _, rfl, kp u18, ?_⟩
  have x18 := x17.then u18
  have B18 := B13.old x18
  refine c26 (va := { v with opts := o', data := d' }) B18.lst.opts (by show o'.length ≤ _; omega) (fun o ho => by have := odl o ho; omega) B18.dat (by show d'.length ≤ _; omega) fun s11 os11 d12 w19 u19 hO19 _ _ hD19 _ => ⟨_, _, _, _, _, _, _, _, _, _, _, _, _, rfl, kp u19, ?_⟩
  refine c34 (v := { v with opts := o', data := d' }) hO19 (by show o'.length ≤ _; omega) (fun o ho => by have := odl o ho; omega) hD19 (by show d'.length ≤ _; omega) hand.fit fun s13 w20 u20 h13 k13 => ⟨_, _, rfl, kp u20, ?_⟩
  have x20 := (x18.then u19).then u20
  refine c26 (va := { ipZ with opts := l' }) (B13.old x20).lst2.opts (by show l'.length ≤ _; omega) (fun o ho => by have := od2 o ho; omega) (Sees.nil _ _ _ _) (by simp [ipZ]) fun s14 os14 d15 w21 u21 hO21 _ _ _ _ => ⟨_, _, _, _, _, _, _, _, _, _, _, _, _, rfl, kp u21, ?_⟩
  refine c35 hO21 (by show l'.length ≤ _; omega) (fun o ho => by have := od2 o ho; omega) fun s16 w22 u22 h16 k16 => ⟨_, _, rfl, kp u22, ?_⟩
  have x22 := (x20.then u21).then u22
  intro J3 hJ3 w23 u23
  refine c21 ⟨_, rfl, kp (Upd.refl _), u23, ?_⟩
  have x23 := x22.then u23
  have B23 := B13.old x23
  refine c36 (v := { v with opts := o', data := d' }) B23.lst.opts (by show o'.length ≤ _; omega) (fun o ho => by have := odl o ho; omega) B23.dat.len (by show d'.length ≤ _; omega) fun w24 u24 => ⟨_, rfl, kp u24, brf (by simp) ?_⟩
  refine c21 ⟨_, rfl, kp (Upd.refl _), brf (by simp) ?_⟩
  refine c21 ⟨_, rfl, kp (Upd.refl _), brf (by simp) ?_⟩
  have x24 := x23.then u24
  have sb := serL_byt hand.fit
  have pb := putL_byt bl'
  have t15 : Upd [] [] w15 w24 := (((((((u16.then u17).then u18).then u19).then u20).then u21).then u22).then u23).then u24
  have t16 : Upd [] [] w16 w24 := ((((((u17.then u18).then u19).then u20).then u21).then u22).then u23).then u24
  have t17 : Upd [] [] w17 w24 := (((((u18.then u19).then u20).then u21).then u22).then u23).then u24
  have t18 : Upd [] [] w18 w24 := ((((u19.then u20).then u21).then u22).then u23).then u24
  have t20 : Upd [] [] w20 w24 := ((u21.then u22).then u23).then u24
  have t22 : Upd [] [] w22 w24 := u23.then u24
  refine c24 (h7.old t15) (h13.old t20) sb sb ⟨_, rfl, kp (Upd.refl _), brf (by simp) ?_⟩
  refine c24 (h8.old t16) (h13.old t20) sb sb ⟨_, rfl, kp (Upd.refl _), brf (by simp) ?_⟩
  (repeat refine And.intro rfl ?_)
  refine hJ3 _ ?_
  clear hJ3
  intro J4 hJ4
  refine c21 ⟨_, rfl, kp (Upd.refl _), brf (by simp) ?_⟩
  refine c21 ⟨_, rfl, kp (Upd.refl _), brf (by simp) ?_⟩
  refine c24 (h9.old t17) (h16.old t22) pb pb ⟨_, rfl, kp (Upd.refl _), brf (by simp) ?_⟩
  refine c24 (h10.old t18) (h16.old t22) pb pb ⟨_, rfl, kp (Upd.refl _), brf (by simp) ?_⟩
  refine c37T (hD13.old x24) (B13.old x24).dat bd' hK fun w25 u25 => ⟨_, rfl, kp u25, brf rfl ?_⟩
  have x25 := x24.then u25
  refine c38T (Ld13.old x25) (B13.old x25).lst.opts bo' (by omega) fun w26 u26 => ⟨_, rfl, kp u26, brf rfl ?_⟩
  have x26 := x25.then u26
  refine c38T (hLd2.old x26) (B13.old x26).lst2.opts bl' (by omega) fun w27 u27 => ⟨_, rfl, kp u27, brf rfl ?_⟩
  have x27 := x26.then u27
  have t2427 : Upd [] [] w24 w27 := (u25.then u26).then u27
  (repeat refine And.intro rfl ?_)
  refine hJ4 _ ?_
  clear hJ4
  have y14 := u14.size; have y15 := u15.size; have y16 := u16.size; have y17 := u17.size; have y18 := u18.size; have y27 := (t18.then t2427).size
  have Z13 : Dr w.heap.size w13 c13 bd br1 br2 := ⟨⟨room', Dq.ofDsk hD13 hK (by omega), a13⟩, ⟨_, Ld13.at, r1c13⟩, ⟨_, hLd2.at, r2c13⟩⟩
  -- colours of what is kept
  have e7 := k7.blk; have e8 := k8.blk; have e9 := k9.blk; have e10 := k10.blk
  have B14 := (B13.next u14 (by simp) 12).next u15 (by simp) 8
  have B16 := ((B14.next u16 (by simp) 9).next u17 (by simp) 10).next u18 (by simp) 11
  have B27 := B16.next (t18.then t2427) (by simp) 12
  have Z14 := (Z13.next u14 (by simp) 12).next u15 (by simp) 8
  have Z16 := ((Z14.next u16 (by simp) 9).next u17 (by simp) 10).next u18 (by simp) 11
  have Z27 := Z16.next (t18.then t2427) (by simp) 12
  have cn : ∀ (c : Nat → Nat) (z k : Nat) (g : Sl), (∀ x ∈ g.blk, z ≤ x) → Col (rc c z k) k g.blk := fun c z k g hz => Col.new (S := []) (fun x hx => by simp at hx) (fun x hx => .inr (hz x hx))
  have C7 := (((cn (rc c13 w13.heap.size 12) w14.heap.size 8 s7 (fun x hx => (e7 x hx).1)).rc (z := w15.heap.size) (j := 9) (fun x hx => (e7 x hx).2)).rc (z := w16.heap.size) (j := 10) (fun x hx => by have := e7 x hx; omega)).rc (z := w17.heap.size) (j := 11) (fun x hx => by have := e7 x hx; omega) |>.rc (z := w18.heap.size) (j := 12) (fun x hx => by have := e7 x hx; omega)
  have C8 := ((cn (rc (rc c13 w13.heap.size 12) w14.heap.size 8) w15.heap.size 9 s8 (fun x hx => (e8 x hx).1)).rc (z := w16.heap.size) (j := 10) (fun x hx => (e8 x hx).2)).rc (z := w17.heap.size) (j := 11) (fun x hx => by have := e8 x hx; omega) |>.rc (z := w18.heap.size) (j := 12) (fun x hx => by have := e8 x hx; omega)
  have C9 := ((cn (rc (rc (rc c13 w13.heap.size 12) w14.heap.size 8) w15.heap.size 9) w16.heap.size 10 s9 (fun x hx => (e9 x hx).1)).rc (z := w17.heap.size) (j := 11) (fun x hx => (e9 x hx).2)).rc (z := w18.heap.size) (j := 12) (fun x hx => by have := e9 x hx; omega)
  have C10 := (cn (rc (rc (rc (rc c13 w13.heap.size 12) w14.heap.size 8) w15.heap.size 9) w16.heap.size 10) w17.heap.size 11 s10 (fun x hx => (e10 x hx).1)).rc (z := w18.heap.size) (j := 12) (fun x hx => (e10 x hx).2)
  have L27 := ((((L13.rc (z := w13.heap.size) (j := 12) (fun x hx => by have := lb8 x hx; omega)).rc (z := w14.heap.size) (j := 8) (fun x hx => by have := lb8 x hx; omega)).rc (z := w15.heap.size) (j := 9) (fun x hx => by have := lb8 x hx; omega)).rc (z := w16.heap.size) (j := 10) (fun x hx => by have := lb8 x hx; omega)).rc (z := w17.heap.size) (j := 11) (fun x hx => by have := lb8 x hx; omega) |>.rc (z := w18.heap.size) (j := 12) (fun x hx => by have := lb8 x hx; omega)
  generalize rc (rc (rc (rc (rc (rc c13 w13.heap.size 12) w14.heap.size 8) w15.heap.size 9) w16.heap.size 10) w17.heap.size 11) w18.heap.size 12 = c27 at *
  have lb27 : ∀ x ∈ [bh, b4, b11], x < w27.heap.size := fun x hx => by have := lb8 x hx; omega
  have U27 := U13.then x27
  have H7 := h7.old (t15.then t2427); have K7 : Own w.heap.size 1 w27 s7 := (k7.old (t15.then t2427)).mono (by omega)
  have H8 := h8.old (t16.then t2427); have K8 : Own w.heap.size 1 w27 s8 := (k8.old (t16.then t2427)).mono (by omega)
  have H9 := h9.old (t17.then t2427); have K9 : Own w.heap.size 1 w27 s9 := (k9.old (t17.then t2427)).mono (by omega)
  have H10 := h10.old (t18.then t2427); have K10 : Own w.heap.size 1 w27 s10 := (k10.old (t18.then t2427)).mono (by omega)
  have sl := serL_len { v with opts := o', data := d' }
  have pl := putL_len l'
  have off7 : ∀ {w' : World} {hd : List Nat} {c : Nat → Nat} {j : Nat} {g : Sl}, (∀ x ∈ hd, c x = 7 ∧ w.heap.size ≤ x ∧ x < w'.heap.size) → Col c j g.blk → j ≠ 7 → ∀ x ∈ g.blk, x ∉ hd := fun hh hc hne x hx hm => hne ((hc x hx).symm.trans (hh x hm).1)
  have n7 : ∀ {w' : World} {hd : List Nat} {c : Nat → Nat} {S : List Nat}, (∀ x ∈ hd, c x = 7 ∧ w.heap.size ≤ x ∧ x < w'.heap.size) → Col c 0 S → ∀ x ∈ S, x ∉ hd := fun hh hc x hx hm => by have := hc x hx; have := (hh x hm).1; omega
  have f7 := K7.blk; have f8 := K8.blk; have f9 := K9.blk; have f10 := K10.blk
  refine B27.keep H7 K7 C7 (by decide) sb (by omega) (by omega) fun w28 d28 u28 m28 B28 => ⟨rfl, kpm u28 lb27 (n7 m28 L27), ?_⟩
  have g28 := u28.size
  have Z28 := Z27.keep u28 m28 C7 (by decide)
  have L28 := L27.kc C7 (by decide) lb27
  have D8 := C8.kc C7 (by decide) (fun x hx => (f8 x hx).2)
  have D9 := C9.kc C7 (by decide) (fun x hx => (f9 x hx).2)
  have D10 := C10.kc C7 (by decide) (fun x hx => (f10 x hx).2)
  have H8 := H8.upd u28 (off7 m28 C8 (by decide)); have K8 := K8.upd u28 (off7 m28 C8 (by decide))
  have H9 := H9.upd u28 (off7 m28 C9 (by decide)); have K9 := K9.upd u28 (off7 m28 C9 (by decide))
  have H10 := H10.upd u28 (off7 m28 C10 (by decide)); have K10 := K10.upd u28 (off7 m28 C10 (by decide))
  have U28 := U27.step0 u28 (fun x hx => (m28 x hx).2.1)
  clear B27 Z27 L27 C7 C8 C9 C10 m28
  generalize kc c27 w27.heap.size s7.blk = c28 at *
  have lb28 : ∀ x ∈ [bh, b4, b11], x < w28.heap.size := fun x hx => by have := lb27 x hx; omega
  refine B28.keep H8 K8 D8 (by decide) sb (by omega) (by omega) fun w29 d29 u29 m29 B29 => ⟨rfl, kpm u29 lb28 (n7 m29 L28), ?_⟩
  have g29 := u29.size
  have Z29 := Z28.keep u29 m29 D8 (by decide)
  have L29 := L28.kc D8 (by decide) lb28
  have E9 := D9.kc D8 (by decide) (fun x hx => (K9.blk x hx).2)
  have E10 := D10.kc D8 (by decide) (fun x hx => (K10.blk x hx).2)
  have H9 := H9.upd u29 (off7 m29 D9 (by decide)); have K9 := K9.upd u29 (off7 m29 D9 (by decide))
  have H10 := H10.upd u29 (off7 m29 D10 (by decide)); have K10 := K10.upd u29 (off7 m29 D10 (by decide))
  have U29 := U28.step0 u29 (fun x hx => (m29 x hx).2.1)
  clear B28 Z28 L28 D8 D9 D10 m29
  generalize kc c28 w28.heap.size s8.blk = c29 at *
  have lb29 : ∀ x ∈ [bh, b4, b11], x < w29.heap.size := fun x hx => by have := lb28 x hx; omega
  refine B29.keep H9 K9 E9 (by decide) pb (by omega) (by omega) fun w30 d30 u30 m30 B30 => ⟨rfl, kpm u30 lb29 (n7 m30 L29), ?_⟩
  have g30 := u30.size
  have Z30 := Z29.keep u30 m30 E9 (by decide)
  have L30 := L29.kc E9 (by decide) lb29
  have F10 := E10.kc E9 (by decide) (fun x hx => (K10.blk x hx).2)
  have H10 := H10.upd u30 (off7 m30 E10 (by decide)); have K10 := K10.upd u30 (off7 m30 E10 (by decide))
  have U30 := U29.step0 u30 (fun x hx => (m30 x hx).2.1)
  clear B29 Z29 L29 E9 E10 m30
  generalize kc c29 w29.heap.size s9.blk = c30 at *
  have lb30 : ∀ x ∈ [bh, b4, b11], x < w30.heap.size := fun x hx => by have := lb29 x hx; omega
  refine B30.keep H10 K10 F10 (by decide) pb (by omega) (by omega) fun w31 d31 u31 m31 B31 => ⟨rfl, kpm u31 lb30 (n7 m31 L30), ?_⟩
  have g31 := u31.size
  have Z31 := Z30.keep u31 m31 F10 (by decide)
  have L31 := L30.kc F10 (by decide) lb30
  have U31 := U30.step0 u31 (fun x hx => (m31 x hx).2.1)
  clear B30 Z30 L30 F10 m31
  generalize kc c30 w30.heap.size s10.blk = c31 at *
  have lb31 : ∀ x ∈ [bh, b4, b11], x < w31.heap.size := fun x hx => by have := lb30 x hx; omega
  obtain ⟨hdB, bkB, ckB⟩ := B31.book
  refine bkB.untouched (by omega) fun w32 u32 => ⟨_, rfl, kp u32, brf rfl ?_⟩
  have B32 := B31.old u32
  have Z32 := Z31.old u32
  have U32 := U31.then u32
  have g32 := u32.size
  have lb32 : ∀ x ∈ [bh, b4, b11], x < w32.heap.size := fun x hx => by have := lb31 x hx; omega
  have L2 : Col c31 0 [bh, b4] := fun x hx => L31 x (by simp at hx ⊢; rcases hx with e | e <;> simp [e])
  have sub2 : ∀ x ∈ [bh, b4], x ∈ [bh, b4, b11] := by simp
  refine brd (fun hlt => ?_) (fun _ => ?_)
  · have hq2 : q < ts.length := by omega
    have hvq := hv _ (List.getElem_mem hq2)
    have cells : ∀ {w' : World}, Upd [] [] w w' → ∀ i, i < 2 → w'.cell? ((turns.at 2 (Int.toNat (q : Int))).add (0 + i)) = some (.int .i64 ((fun i => if i = 0 then ts[q].1 else ts[q].2 : Nat → Int) i)) := fun u i hi => by
      have g := (ht.old u).elem hq2
      rw [Int.toNat_natCast, Nat.zero_add]
      rcases i with _ | _ | i
      · exact g 0 (by simp [cT])
      · exact g 1 (by simp [cT])
      · omega
    have isS : ∀ {w' : World}, Upd [] [] w w' → turns.ptr.isSome = true := fun u => (ht.old u).isSome (by decide) (by omega)
    refine needIx (by omega) (by omega) (isS U32) ⟨_, cells U32, fun w33 u33 => ?_⟩
    have B33 := B32.old u33
    have g33 := u33.size
    refine c41 B33.dat B33.od bd' B33.lst (B33.cd.off B33.cl (by decide)) bo' hvq (by omega) (by omega) (fun o ho => by have := odl o ho; omega) fun w34 d3 o3 u34 hd3 od3 hL3 ld3 fo3 bd3 bo3 => ⟨rfl, kpm u34 (fun x hx => by have := lb32 x hx; omega) (fun x hx hm => ?_), ?_⟩
    · have := L31 x hx
      rcases List.mem_append.1 hm with e | e
      · have := B33.cd x e; omega
      · have := B33.cl x e; omega
    have m34 : ∀ x ∈ d.blk ++ lstB s os', c31 x = 1 ∨ c31 x = 2 := fun x hx => by
      rcases List.mem_append.1 hx with e | e
      · exact .inl (B33.cd x e)
      · exact .inr (B33.cl x e)
    have n34 : ∀ x ∈ d.blk ++ lstB s os', w.heap.size ≤ x := fun x hx => by
      rcases List.mem_append.1 hx with e | e
      · exact (B33.od.blk x e).1
      · exact (B33.lst.lt x e).1
    have U34 := (U32.then u33).step0 u34 n34
    obtain ⟨hb3, k3, e3⟩ := B33.book
    have B34 : Bs w.heap.size w34 c31 bk d s s2 os' os2 d3 o3 l' (4 * q + 1 + 1 + 1 + 1) := ⟨hd3, od3, hL3, B33.lst2.upd u34 (fun x hx hm => by have := B33.cl2 x hx; have := m34 x hm; omega), ⟨hb3, k3.upd u34 (fun x hx hm => by have := e3 x hx; have := m34 x hm; omega), e3⟩, B33.le, B33.cd, B33.cl, B33.cl2⟩
    have Z34 := (Z32.old u33).gen u34 (c' := c31) (fun x hx => by have := m34 x hx; omega) (fun hS _ _ => hS)
    have g34 := u34.size
    refine needIx (by omega) (by omega) (isS U34) ⟨_, cells U34, ?_⟩
    refine c41 (data := ⟨none, 0, 0⟩) (dl := []) (N := w.heap.size) (Sees.nil _ _ _ _) (Own.none _ _ _) Byt.nil B34.lst2 (by simp [Sl.blk]) bl' hvq (by simp) (by omega) (fun o ho => by have := od2 o ho; omega) fun w35 d4 l4 u35 _ _ hL4 _ fl4 _ bl4 => ⟨rfl, kpm u35 (fun x hx => by have := lb32 x hx; omega) (fun x hx hm => ?_), ?_⟩
    · have := L31 x hx
      have hm : x ∈ lstB s2 os2 := by simpa [Sl.blk] using hm
      have := B34.cl2 x hm
      omega
    have m35 : ∀ x ∈ (⟨none, 0, 0⟩ : Sl).blk ++ lstB s2 os2, c31 x = 3 ∧ w.heap.size ≤ x := fun x hx => by
      have hx : x ∈ lstB s2 os2 := by simpa [Sl.blk] using hx
      exact ⟨B34.cl2 x hx, (B34.lst2.lt x hx).1⟩
    have g35 := u35.size
    (repeat refine And.intro rfl ?_)
    refine next w35 c31 o3 d3 l4 (U34.step0 u35 (fun x hx => (m35 x hx).2)) ⟨B34.dat.upd u35 (fun x hx hm => by have := B34.cd x hx; have := m35 x hm; omega), B34.od.upd u35 (fun x hx hm => by have := B34.cd x hx; have := m35 x hm; omega), B34.lst.upd u35 (fun x hx hm => by have := B34.cl x hx; have := m35 x hm; omega), hL4, ?_, B34.le, B34.cd, B34.cl, B34.cl2⟩ (Z34.gen u35 (fun x hx => by have := m35 x hx; omega) (fun hS _ _ => hS)) L2 (fun x hx => by have := lb32 x (sub2 x hx); omega) ld3 fo3 fl4 bd3 bo3 bl4
    obtain ⟨hb4, k4, e4⟩ := B34.book
    exact ⟨hb4, k4.upd u35 (fun x hx hm => by have := e4 x hx; have := m35 x hm; omega), e4⟩
  · (repeat refine And.intro rfl ?_)
    exact next w32 c31 o' d' l' U32 B32 Z32 L2 (fun x hx => lb32 x (sub2 x hx)) rfl rfl rfl bd' bo' bl'
end
end Go.Vc.S6
