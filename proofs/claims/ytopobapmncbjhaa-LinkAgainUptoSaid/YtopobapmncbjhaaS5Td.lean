import Derived.Test.YtopobapmncbjhaaS5Tn
open Go Go.Vc Go.Proofs
set_option linter.unusedVariables false
set_option linter.unusedSimpArgs false
set_option autoImplicit false
namespace Go.Vc.S5
section
variable {N : Nat} {w w1 : World} {s : Sl} {bk bw : Nat} {tags : List Tag} {data bytes : List Int} {R : SV → World → Prop}
theorem Fw.setT {i j : Nat} {y : Tag} {v : Value} {vs : List Value} {bs : List Nat} {F : World → Prop} (h : Fw N w s bk bw tags data bytes) (hi : i < tags.length) (hj : j < 4) (hv : cTag.enc y = (cTag.enc tags[i]).set j v) (hvs : vs = [v]) (hbs : ∀ b ∈ fwB s bk bw, b ∉ bs)
    (k : ∀ w1, Fw N w1 s bk bw (tags.set i y) data bytes → Upd (fwB s bk bw) [] w w1 → F w1) : Store w ((s.at 4 i).add j) vs bs F := by
  subst hvs
  refine set_at h.tg h.ot (i := i) (x := tags[i]) (y := y) (by rw [wideT_len]; omega) hj (wideT_lo hi) hv (fun b hb => hbs b (by simp [fwB, hb])) fun w1 h1 o1 u1 => ?_
  rw [wideT_set hi] at h1
  have k1 : ∀ n, ∀ x ∈ (wideS bk n).blk, x ∉ s.blk := fun n x hx hm => by simp [Sl.blk] at hx; subst hx; have := h.lt.1 _ hm; omega
  have k2 : ∀ n, ∀ x ∈ (wideS bw n).blk, x ∉ s.blk := fun n x hx hm => by simp [Sl.blk] at hx; subst hx; have := h.lt.1 _ hm; have := h.lt.2; omega
  exact k w1 ⟨h1, o1, h.dt.upd u1 (k1 _), h.od.upd u1 (k1 _), h.by'.upd u1 (k2 _), h.ob.upd u1 (k2 _), h.lt⟩ (u1.wide (by simp [fwB]; intro x hx; exact .inl hx))
theorem Fw.setD {i : Nat} {v : Int} {vs : List Value} {bs : List Nat} {F : World → Prop} {n m : Nat} (h : Fw N w s bk bw tags data bytes) (hi : i < data.length) (hvs : vs = [.int .u8 v]) (hbs : ∀ b ∈ fwB s bk bw, b ∉ bs)
    (k : ∀ w1, Fw N w1 s bk bw tags (data.set i v) bytes → Upd (fwB s bk bw) [] w w1 → F w1) : Store w (Sl.at ⟨some ⟨bk, 0, none⟩, n, m⟩ 1 i) vs bs F := by
  subst hvs
  refine own_set (c := cU8) (s := wideS bk (2 * data.length + 70)) (i := i) (x := v) h.dt h.od (by decide) (by rw [wideL_len]; omega) rfl (fun b hb => hbs b (by simp [Sl.blk] at hb; simp [fwB, hb])) fun w1 h1 o1 u1 => ?_
  rw [wideL_set hi] at h1
  have k1 : ∀ x ∈ s.blk, x ∉ (wideS bk (2 * data.length + 70)).blk := fun x hx hm => by simp [Sl.blk] at hm; subst hm; have := h.lt.1 _ hx; omega
  have k2 : ∀ n, ∀ x ∈ (wideS bw n).blk, x ∉ (wideS bk (2 * data.length + 70)).blk := fun n x hx hm => by simp [Sl.blk] at hx hm; have := h.lt.2; omega
  refine k w1 ⟨h.tg.upd u1 k1, h.ot.upd u1 k1, by rw [List.length_set]; exact h1, by rw [List.length_set]; exact o1, h.by'.upd u1 (k2 _), h.ob.upd u1 (k2 _), h.lt⟩ (u1.wide (by simp [fwB, Sl.blk]))
theorem Fw.setB {i : Nat} {v : Int} {vs : List Value} {bs : List Nat} {F : World → Prop} {n m : Nat} (h : Fw N w s bk bw tags data bytes) (hi : i < bytes.length) (hvs : vs = [.int .u8 v]) (hbs : ∀ b ∈ fwB s bk bw, b ∉ bs)
    (k : ∀ w1, Fw N w1 s bk bw tags data (bytes.set i v) → Upd (fwB s bk bw) [] w w1 → F w1) : Store w (Sl.at ⟨some ⟨bw, 0, none⟩, n, m⟩ 1 i) vs bs F := by
  subst hvs
  refine own_set (c := cU8) (s := wideS bw (2 * bytes.length + 70)) (i := i) (x := v) h.by' h.ob (by decide) (by rw [wideL_len]; omega) rfl (fun b hb => hbs b (by simp [Sl.blk] at hb; simp [fwB, hb])) fun w1 h1 o1 u1 => ?_
  rw [wideL_set hi] at h1
  have k1 : ∀ x ∈ s.blk, x ∉ (wideS bw (2 * bytes.length + 70)).blk := fun x hx hm => by simp [Sl.blk] at hm; subst hm; have := h.lt.1 _ hx; have := h.lt.2; omega
  have k2 : ∀ n, ∀ x ∈ (wideS bk n).blk, x ∉ (wideS bw (2 * bytes.length + 70)).blk := fun n x hx hm => by simp [Sl.blk] at hx hm; have := h.lt.2; omega
  refine k w1 ⟨h.tg.upd u1 k1, h.ot.upd u1 k1, h.dt.upd u1 (k2 _), h.od.upd u1 (k2 _), by rw [List.length_set]; exact h1, by rw [List.length_set]; exact o1, h.lt⟩ (u1.wide (by simp [fwB, Sl.blk]))
set_option maxRecDepth 10000 in
theorem c39 {f g : Nat → Int} {ty t0 t1 t2 : Int} (h : Fw N w s bk bw tags data bytes) (hd : Byt data) (hb : Byt bytes)
    (k : ∀ tags' data' bytes' w1, Upd (fwB s bk bw) [] w w1 → Fw N w1 s bk bw tags' data' bytes' → tags'.length = tags.length → data'.length = data.length → bytes'.length = bytes.length → Byt data' → Byt bytes' → R (.tuple []) w1) :
    Ret Try.prog 39 [.slice ⟨some ⟨bw, 0, none⟩, bytes.length, 2 * bytes.length + 70⟩, frSV f g (Sl.sub s 4 0 tags.length s.cap) ty ⟨some ⟨bk, 0, none⟩, data.length, 2 * data.length + 70⟩, .struct [.int .i64 t0, .int .i64 t1, .int .i64 t2]] w R := by
  refine f39_of _ _ _ _ _ _ _ _ _ _ _ ?_
  unfold vc39
  simp only [sub0]
  have hrg := h.rng
  intro b1 b2 J hJ
  have pt : ∀ bytes' w', Upd (fwB s bk bw) [] w w' → Fw N w' s bk bw tags data bytes' → bytes'.length = bytes.length → Byt bytes' → (∀ x ∈ fwB s bk bw, x ∉ [b1, b2]) → J w' := by
    intro bytes' w1 u1 h1 hbl hbb hbs
    refine hJ _ ?_
    clear hJ
    intro J2 hJ2
    have pt2 : ∀ data' w', Upd (fwB s bk bw) [] w w' → Fw N w' s bk bw tags data' bytes' → data'.length = data.length → Byt data' → J2 w' := by
      intro data' w2 u2 h2 hdl hdb
      refine hJ2 _ ?_
      clear hJ2
      refine brd (fun hpos w3 u3 => ?_) (fun _ => k tags data' bytes' w2 u2 h2 rfl hdl hbl hdb hbb)
      have hpos : (0 : Int) < (tags.length : Int) := hpos
      refine c56 hpos ⟨_, rfl, kp (Upd.refl _), u3, ?_⟩
      have hpr := plc_r t0 (n := (tags.length : Int)) hpos
      show Need (decide (0 ≤ plc t0 (tags.length : Int)) && decide (plc t0 (tags.length : Int) < (tags.length : Int)) && _) _
      generalize plc t0 (tags.length : Int) = pi at hpr
      obtain ⟨i, rfl⟩ := Int.eq_ofNat_of_zero_le hpr.1
      have hi : i < tags.length := by omega
      have h3 := h2.old u3
      have U3 : Upd (fwB s bk bw) [] w w3 := u2.step u3 (by simp)
      refine needIx (by omega) (by omega) (h3.tg.isSome (by decide) (by rw [wideT_len]; omega)) ?_
      rw [Int.toNat_natCast]
      have fin : ∀ y w4, Fw N w4 s bk bw (tags.set i y) data' bytes' → Upd (fwB s bk bw) [] w3 w4 → R (.tuple []) w4 := fun y w4 h4 u4 => k _ _ _ w4 (U3.step u4 (fun x hx => .inr hx)) h4 (by simp) hdl hbl hdb hbb
      refine bre (fun _ => ?_) (fun _ => bre (fun _ => ?_) (fun _ => bre (fun _ => ?_) (fun _ => bre (fun _ => ?_) (fun _ => ?_))))
      · exact h3.setT (j := 3) (y := { tags[i] with vid := t2 }) hi (by omega) rfl rfl hbs (fin _)
      · exact h3.setT (j := 1) (y := { tags[i] with pcp := t2 }) hi (by omega) rfl rfl hbs (fin _)
      · have := h3.setT (j := 0) (y := { tags[i] with tpid := t2 }) hi (by omega) rfl rfl hbs (fin _)
        rw [add_zero] at this
        exact this
      · have hc := h3.tg.elem (i := i) (by rw [wideT_len]; omega) 2 (by simp [cTag])
        rw [wideT_lo hi] at hc
        exact ⟨_, hc, h3.setT (j := 2) (y := { tags[i] with dei := !tags[i].dei }) hi (by omega) rfl rfl hbs (fin _)⟩
      · exact k tags data' bytes' w3 U3 h3 rfl hdl hbl hdb hbb
    clear hJ2
    have same : J2 w1 := pt2 data w1 u1 h1 rfl hd
    refine brd (fun hpos => bre (fun _ w3 u3 => ?_) (fun _ => ⟨trivial, trivial, same⟩)) (fun _ => ⟨trivial, trivial, same⟩)
    have hpos : (0 : Int) < (data.length : Int) := hpos
    refine c56 hpos ⟨_, rfl, kp (Upd.refl _), u3, ?_⟩
    have hpr := plc_r t0 (n := (data.length : Int)) hpos
    show Need (decide (0 ≤ plc t0 (data.length : Int)) && decide (plc t0 (data.length : Int) < (data.length : Int)) && _) _
    generalize plc t0 (data.length : Int) = pi at hpr
    obtain ⟨i, rfl⟩ := Int.eq_ofNat_of_zero_le hpr.1
    have hi : i < data.length := by omega
    refine needIx (by omega) (by omega) rfl ?_
    rw [Int.toNat_natCast]
    exact (h1.old u3).setD (v := wr .u8 t2) hi rfl hbs fun w4 h4 u4 => ⟨trivial, trivial, pt2 _ w4 ((u1.step u3 (by simp)).step u4 (fun x hx => .inr hx)) h4 (by simp) (hd.set i (wr_u8_range t2))⟩
  clear hJ
  have off : ∀ w1, Upd [] [b2, b1] w w1 → ∀ x ∈ fwB s bk bw, x ∉ [b1, b2] := fun w1 u1 x hx hm => by
    have e1 := u1.new (b := b1) (by simp)
    have e2 := u1.new (b := b2) (by simp)
    have := hrg x hx
    simp at hm; omega
  refine brd (fun hpos w1 u1 => ?_) (fun _ w1 u1 => ⟨trivial, trivial, pt bytes w1 (u1.wide (by simp)) (h.old u1) rfl hb (off w1 u1)⟩)
  have hpos : (0 : Int) < (bytes.length : Int) := hpos
  refine c56 hpos ⟨_, rfl, kp (Upd.refl _), u1.forget, ?_⟩
  have hpr := plc_r t0 (n := (bytes.length : Int)) hpos
  show Need (decide (0 ≤ plc t0 (bytes.length : Int)) && decide (plc t0 (bytes.length : Int) < (bytes.length : Int)) && _) _
  generalize plc t0 (bytes.length : Int) = pi at hpr
  obtain ⟨i, rfl⟩ := Int.eq_ofNat_of_zero_le hpr.1
  have hi : i < bytes.length := by omega
  refine needIx (by omega) (by omega) rfl ?_
  rw [Int.toNat_natCast]
  exact (h.old u1).setB (v := wr .u8 t2) hi rfl (off w1 u1) fun w4 h4 u4 => ⟨trivial, trivial, pt _ w4 ((u1.wide (m' := fwB s bk bw) (by simp)).step u4 (fun x hx => .inr hx)) h4 (by simp) (hb.set i (wr_u8_range t2)) (off w1 u1)⟩
end
end Go.Vc.S5
