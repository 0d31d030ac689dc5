import Derived.Test.YtlohkdkgpajkaaaDoorG6
import Derived.Test.YtlohkdkgpajkaaaDoorG5
import Derived.Recover
import Derived.Test.YtlohkdkgpajkaaaDoorG4
import Derived.Test.YtlohkdkgpajkaaaDoorG3
section
open Go Go.Vc Go.Proofs
set_option linter.unusedVariables false
set_option linter.unusedSimpArgs false
set_option autoImplicit false
namespace Go.Vc.S6

/-- may these be widths? -/
structure Wid (ws : List Int) : Prop where
  len : ws.length ≤ 64
  each : ∀ x ∈ ws, 1 ≤ x ∧ x ≤ 32
  whole : wsum ws % 8 = 0
theorem Wid.le {ws : List Int} (h : Wid ws) : wsum ws ≤ 2048 := by
  have h1 := wsum_le (l := ws) (m := 32) fun x hx => (h.each x hx).2
  have := h.len
  omega

theorem c87 {widths : Sl} {ws : List Int} {w : World} {R : SV → World → Prop} (h : Sees cI64 w widths ws) (v : Wid ws) (k : R (.tuple [.int .i64 ((wsum ws / 8 : Nat) : Int), .int .i64 0]) w) : Ret Tryd.prog 87 [.slice widths] w R := by
  refine f87_of _ _ _ ?_
  unfold vc87
  have hlen := h.len
  have hv := v.len
  have hle := v.le
  refine brd (fun hg => absurd hg (by omega)) (fun _ => ?_)
  refine ⟨fun n i w1 => w1 = w ∧ ∃ q : Nat, i = q ∧ q ≤ ws.length ∧ n = (wsum (ws.take q) : Nat), fun _ i _ => (ws.length - i).toNat, ⟨rfl, 0, rfl, by omega, by simp [wsum]⟩, ?_⟩
  rintro n i w1 ⟨rfl, q, rfl, hq, rfl⟩
  have hb := wsum_take_le ws q
  refine brd (fun hlt => ?_) (fun hge => ?_)
  · have hq2 : q < ws.length := by omega
    refine needI h (by omega) (by omega) ⟨_, (by rw [Int.toNat_natCast]; exact intAt h q hq2), fun J hJ => ?_⟩
    have := v.each _ (List.getElem_mem hq2)
    refine brd (fun hg => absurd hg (by omega)) (fun _ => brd (fun hg => absurd hg (by omega)) (fun _ => hJ _ ⟨⟨rfl, q + 1, wr_succ (by omega), by omega, ?_⟩, by rw [wr_succ (by omega)]; (try dsimp only); omega⟩))
    rw [wr_i64 (by omega) (by omega), wsum_take_succ hq2]
    omega
  · have : q = ws.length := by omega
    subst this
    rw [List.take_length] at hb ⊢
    have hw := v.whole
    rw [tmod_pos (by omega)]
    refine bre' (fun hn => absurd hn (by omega)) (fun _ => ?_)
    rw [tdiv_pos (by omega), wr_i64 (by omega) (by omega)]
    exact k

theorem c90 {b : Sl} {l : List Int} {i : Int} {w : World} {R : SV → World → Prop} (h : SeesB w b l) (h0 : 0 ≤ i) (h1 : i < l.length) (k : R (.int .u8 (bt l i)) w) : Ret Tryd.prog 90 [.slice b, .int .i64 i] w R := by
  refine f90_of _ _ _ _ ?_
  unfold vc90
  have hlen := h.len
  refine fun J hJ => brd (fun hg => absurd hg (by omega)) (fun _ => brd (fun hg => absurd hg (by omega)) (fun _ => hJ _ ?_))
  exact needB h h0 h1 ⟨_, h.byte h0 h1, k⟩

theorem bt_take8 {l : List Int} {n i : Nat} (h : i < n) : bt (l.take n) (i : Int) = bt l (i : Int) := by
  simp only [bt, Int.toNat_natCast, List.getD_eq_getElem?_getD]
  rw [List.getElem?_take_of_lt h]

theorem c89 {b : Sl} {p n : Nat} {w : World} {R : SV → World → Prop} (h1 : p + n ≤ b.len) (hc : b.len ≤ b.cap) (hl : b.len < 9223372036854775807) (k : R (.slice (b.sub 1 p (p + n) (p + n))) w) : Ret Tryd.prog 89 [.slice b, .int .i64 (p : Int), .int .i64 (n : Int)] w R := by
  refine f89_of _ _ _ _ _ ?_
  unfold vc89
  intro J hJ
  rw [wr_i64 (x := (b.len : Int) - p) (by omega) (by omega)]
  refine brd (fun hg => absurd hg (by omega)) (fun _ => brd (fun hg => absurd hg (by omega)) (fun _ => brd (fun hg => absurd hg (by omega)) (fun _ => hJ _ ?_)))
  rw [wr_i64 (x := (p : Int) + n) (by omega) (by omega)]
  rw [show ((p : Int) + (n : Int)).toNat = p + n by omega, Int.toNat_natCast]
  exact need (by simp; omega) k

theorem c88 {p q r : Option Addr} {w : World} {Q : World → Prop} (hq : Q w) : RetD Tryd.prog 88 [.ptr p, .ptr q, .ptr r] w Q := by
  unfold RetD
  refine callsD_of_wpS Tryd.func88 (c := _) rfl fun c₀ cs hu => ?_
  refine wpS_seq (wpS_region ?_)
  have et : ({ tmps := (SV.encL [SV.ptr p, SV.ptr q, SV.ptr r]).toArray ++ Array.replicate (Tryd.f88.ntmps - (SV.encL [SV.ptr p, SV.ptr q, SV.ptr r]).toArray.size) undef, defers := [] } : Act) = { tmps := #[.pointer p, .pointer q, .pointer r, undef, undef], defers := [] } := rfl
  rw [et]
  simp only [List.size_toArray, List.length_cons, List.length_nil, List.range, List.range.loop, wpOpsS]
  simp only [List.getElem?_toArray, List.getElem?_cons_zero, List.getElem?_cons_succ, Region.wanted]
  have h1 : ∀ (a : Act) (w : World) (ty : Nat) (pos : String), (execOp a.eval { dst := some 3, op := Op.call { callee := Callee.builtin Builtin.recover, args := #[], argTypes := #[] }, type := ty, pos := pos, after := #[], guard := none }).run Tryd.prog w = .ok .recover w := fun a w ty pos => rfl
  simp only [h1, recoverD, hu, if_true, ite_true]
  have e2 : ({ tmps := #[.pointer p, .pointer q, .pointer r, undef, undef], defers := [] } : Act).put (some 3) Value.nilIface = { tmps := #[.pointer p, .pointer q, .pointer r, .nilIface, undef], defers := [] } := rfl
  rw [e2]
  have h2 : (execOp ({ tmps := #[.pointer p, .pointer q, .pointer r, .nilIface, undef], defers := [] } : Act).eval { dst := some 4, op := Op.binOp BinOp.neq 20 (Operand.tmp 3) (Operand.const Value.nilIface) 20, type := 4, pos := "view.go:80", after := #[{ on := 0, ground := Ground.data }], guard := none }).run Tryd.prog w = .ok (.value (.bool false)) w := by
    kernel_rfl
  rw [h2]
  simp only [Oper.upon]
  refine wpS_cond (t := false) rfl ?_
  refine wpS_of_wp (wp_skip ?_)
  have h3 : ∀ t : Array Value, ∃ v, (results Tryd.f88 t).run Tryd.prog w = .ok v w := fun t => ⟨.tuple #[], by
    have : results Tryd.f88 t = pure (.tuple #[]) := by
      unfold results
      rw [show Tryd.f88.results = #[] from rfl]
      simp
    rw [this]; rfl⟩
  obtain ⟨v, hv⟩ := h3 _
  exact ⟨rfl, .returning, by rw [← hu], v, hv, ⟨_, rfl⟩, rfl, hq⟩

/-- the fields of bytes from place 0 on -/
theorem c58 {b widths : Sl} {l ws : List Int} {w : World} {R : SV → World → Prop} (h : SeesB w b l) (hb : Byt l) (hc : b.len ≤ b.cap) (hl : l.length < 9223372036854775807) (hw : Sees cI64 w widths ws) (v : Wid ws) (hn : wsum ws / 8 ≤ l.length)
    (k : ∀ r n w1, Upd [] [] w w1 → Sees cI64 w1 r (fieldsOf l 0 ws) → R (.tuple [.slice r, .int .i64 n, .int .i64 0]) w1) : Ret Tryd.prog 58 [.slice b, .int .i64 0, .slice widths] w R := by
  refine f58_of _ _ _ _ _ ?_
  unfold vc58
  intro b1 b2 b3 w1 u1
  have hlen := h.len
  have hwl := hw.len
  have hv := v.len
  have hle := v.le
  have hwhole := v.whole
  refine c87 (hw.old u1) v ⟨_, _, rfl, kp (Upd.refl _), brf (by simp) fun w2 u2 => ?_⟩
  have n1 := u1.new (b := b1) (by simp)
  have n2 := u1.new (b := b2) (by simp)
  have n3 := u1.new (b := b3) (by simp)
  intro r1 o1 r2 o2 r3
  have v2 : Upd [] [] w w2 := u1.step0 u2 (by simp; omega)
  have d12 : b1 ≠ b2 := fun e => o1 (by simp [e])
  have d13 : b1 ≠ b3 := fun e => o1 (by simp [e])
  have d23 : b2 ≠ b3 := fun e => o2 (by simp [e])
  have B1 : Box cSl w2 b1 ⟨none, 0, 0⟩ := .mk' r1 rfl
  have B2 : Box cI64 w2 b2 0 := .mk' r2 rfl
  have B3 : Box cI64 w2 b3 0 := .mk' r3 rfl
  refine c89 (b := b) (p := 0) (n := wsum ws / 8) (by omega) hc (by omega) ⟨_, rfl, ?_⟩
  have hz := v2.size
  generalize hm : wsum ws / 8 = m at *
  refine ⟨fun t i w' => Upd [] [] w w' ∧ ∃ (q : Nat) (s : Sl), i = q ∧ q ≤ ws.length ∧ t = (wsum (ws.take q) : Nat) ∧ Box cSl w' b1 s ∧ Box cI64 w' b2 0 ∧ Box cI64 w' b3 0 ∧ Sees cI64 w' s (fieldsOf l 0 (ws.take q)) ∧ Own w2.heap.size 1 w' s ∧ w2.heap.size ≤ w'.heap.size,
    fun _ i _ => (ws.length - i).toNat, ⟨v2, 0, _, rfl, by omega, by simp [wsum], B1, B2, B3, Sees.nil _ _ _ _, Own.none _ _ _, Nat.le_refl _⟩, ?_⟩
  rintro t i w3 ⟨v3, q, s, rfl, hq, rfl, C1, C2, C3, hs, ho, z3⟩
  have hw3 := hw.old v3
  have h3 := h.old v3
  have hsub : SeesB w3 (b.sub 1 0 (0 + m) (0 + m)) (l.take m) := by
    have := h3.subB (lo := 0) (hi := m) (mx := m) (by omega) (by omega) (by omega)
    simpa using this
  have hlt1 := C1.lt
  refine brd (fun hlt => ?_) (fun hge => ?_)
  · have hq2 : q < ws.length := by omega
    have hwq := v.each _ (List.getElem_mem hq2)
    have hts := wsum_take_succ hq2
    have htl := wsum_take_le ws (q + 1)
    refine needI hw3 (by omega) (by omega) ⟨_, (by rw [Int.toNat_natCast]; exact intAt hw3 q hq2), ?_⟩
    refine ⟨fun t' a i' w' => w' = w3 ∧ ∃ n : Nat, i' = n ∧ n ≤ (ws[q]).toNat ∧ t' = (wsum (ws.take q) + n : Nat) ∧ a = bitsN l (wsum (ws.take q)) n, fun _ _ i' _ => (ws[q] - i').toNat, ⟨rfl, 0, rfl, by omega, by simp, rfl⟩, ?_⟩
    rintro t' a i' w' ⟨rfl, n, rfl, hn1, rfl, rfl⟩
    refine brd (fun hlt2 => ?_) (fun hge2 => ?_)
    · have hbr := bitsN_r l (wsum (ws.take q)) n
      have hp : (2 : Int) ^ n ≤ 2 ^ 31 := by exact_mod_cast Nat.pow_le_pow_right (by omega) (by omega)
      have et : wr .i64 (Int.tdiv ((wsum (ws.take q) + n : Nat) : Int) 8) = (((wsum (ws.take q) + n) / 8 : Nat) : Int) := by rw [tdiv_pos (by omega), wr_i64 (by omega) (by omega)]; omega
      rw [et]
      refine c90 hsub (by omega) (by simp; omega) ⟨_, rfl, ?_⟩
      rw [bt_take8 (by omega)]
      have hbt := hb.bt (((wsum (ws.take q) + n) / 8 : Nat) : Int)
      refine need (by rw [tmod_pos (by omega), u64_id (n := ((wsum (ws.take q) + n : Nat) : Int) % 8) (by omega) (by omega), u64_id (by omega) (by omega)]; simp; omega) ?_
      rw [bit_step hbt (by omega)]
      refine ⟨⟨rfl, n + 1, wr_succ (by omega), by omega, by rw [wr_i64 (by omega) (by omega)]; omega, rfl⟩, by rw [wr_succ (q := n) (by omega)]; (try dsimp only); omega⟩
    · have hnq : n = (ws[q]).toNat := by omega
      subst hnq
      refine ⟨_, C1.sl, ?_⟩
      intro b4 w4 u4 hr4
      have ho4 := ho.old u4
      refine append_own (c := cI64) (new := [bitsN l (wsum (ws.take q)) (ws[q]).toNat]) (hs.old u4) ho4 (sees_row hr4 _ rfl rfl) (by have := u4.size; omega) (by simp) (by decide) (by simp [fieldsOf_len]; omega) fun r w5 hr ho5 u5 hnw => ?_
      have hsb : ∀ x ∈ s.blk, w2.heap.size ≤ x := fun x hx => (ho.blk x hx).1
      have hb12 : b1 < w2.heap.size := B1.lt
      have hb22 : b2 < w2.heap.size := B2.lt
      have hb32 : b3 < w2.heap.size := B3.lt
      have D1 := (C1.old u4).upd u5 (fun hx => by have := hsb _ hx; omega)
      have D2 := (C2.old u4).upd u5 (fun hx => by have := hsb _ hx; omega)
      have D3 := (C3.old u4).upd u5 (fun hx => by have := hsb _ hx; omega)
      refine D1.set (y := r) (by decide) rfl (by simp) fun w6 E1 u6 => ?_
      have hrb : b1 ∉ r.blk := fun hx => by
        have := (ho5.blk _ hx).1; omega
      refine ⟨⟨((v3.then u4).step0 u5 (fun x hx => by have := hsb x hx; omega)).step0 u6 (by simp; omega), q + 1, r, wr_succ (by omega), by omega, by rw [hts], E1, D2.upd u6 (by simpa using d12.symm), D3.upd u6 (by simpa using d13.symm), ?_, ho5.upd u6 (fun x hx hm => by simp at hm; subst hm; exact hrb hx), by have := u4.size; have := u5.size; have := u6.size; omega⟩, by rw [wr_succ (by omega)]; (try dsimp only); omega⟩
      rw [fieldsOf_snoc l hq2]
      exact hr.upd u6 (fun x hx hm => by simp at hm; subst hm; exact hrb hx)
  · have hqe : q = ws.length := by omega
    subst hqe
    rw [List.take_length] at hs
    have hb12 : b1 < w2.heap.size := B1.lt
    refine ⟨_, C1.sl, ?_⟩
    refine C1.set (y := s) (by decide) rfl (by simp) fun w6 E1 u6 => ?_
    have hsb : b1 ∉ s.blk := fun hx => by have := (ho.blk _ hx).1; omega
    have hsb2 : b2 ∉ s.blk := fun hx => by have := (ho.blk _ hx).1; have := B2.lt; omega
    have hsb3 : b3 ∉ s.blk := fun hx => by have := (ho.blk _ hx).1; have := B3.lt; omega
    refine (C2.upd u6 (by simpa using d12.symm)).set (y := wr .i64 (0 + (m : Int))) (by decide) rfl (by simp) fun w7 E2 u7 => ?_
    refine ((C3.upd u6 (by simpa using d13.symm)).upd u7 (by simpa using d23.symm)).set (y := 0) (by decide) rfl (by simp) fun w8 E3 u8 => ?_
    refine c88 ⟨_, ((E1.upd u7 (by simpa using d12)).upd u8 (by simpa using d13)).sl, _, (E2.upd u8 (by simpa using d23)).i64, _, E3.i64, ?_⟩
    refine k s _ w8 (((v3.step0 u6 (by simp; omega)).step0 u7 (by simp; omega)).step0 u8 (by simp; omega)) ?_
    exact ((hs.upd u6 (fun x hx hm => by simp at hm; subst hm; exact hsb hx)).upd u7 (fun x hx hm => by simp at hm; subst hm; exact hsb2 hx)).upd u8 (fun x hx hm => by simp at hm; subst hm; exact hsb3 hx)
end Go.Vc.S6
end

section
open Go Go.Vc Go.Proofs
set_option linter.unusedVariables false
set_option linter.unusedSimpArgs false
set_option autoImplicit false
namespace Go.Vc.S6

theorem bytesT_bt {S : Nat → Int} {n t i : Nat} (h : i < n) : bt (bytesT S n t) (i : Int) = byteT S t i := by
  rw [bt_nat (by rw [bytesT_len]; exact h)]
  simp [bytesT]
/-- values put together -/
theorem c62 {widths values : Sl} {ws vs : List Int} {w : World} {R : SV → World → Prop} (hw : Sees cI64 w widths ws) (hv : Sees cI64 w values vs) (v : Wid ws) (hl : vs.length = ws.length)
    (hr : ∀ i (h : i < ws.length), 0 ≤ vs[i] ∧ vs[i] < 2 ^ (ws[i]).toNat)
    (k : ∀ r w1, Upd [] [] w w1 → SeesB w1 r (packB ws vs (wsum ws / 8)) → Own w.heap.size 1 w1 r → R (.tuple [.slice r, .int .i64 0]) w1) : Ret Tryd.prog 62 [.slice widths, .slice values] w R := by
  refine f62_of _ _ _ _ ?_
  unfold vc62
  have hwl := hw.len
  have hvl := hv.len
  have hlen := v.len
  have hle := v.le
  have hwhole := v.whole
  refine c87 hw v ⟨_, _, rfl, brf (by simp) ?_⟩
  refine bre' (fun hn => absurd hn (by omega)) (fun _ => ?_)
  have hm8 : 8 * (wsum ws / 8) = wsum ws := by omega
  unfold packB at k
  rw [hm8] at k
  generalize hm : wsum ws / 8 = m at *
  refine need (by simp; omega) ?_
  intro b w1 u1 hrow
  rw [Int.toNat_natCast, zeros_cells] at hrow
  rw [Int.toNat_natCast]
  have hs1 : SeesB w1 ⟨some ⟨b, 0, none⟩, m, m⟩ (bytesT (strm ws vs) m 0) := by rw [bytesT_zero]; exact sees_row hrow _ rfl (by simp)
  have ho1 : Own w.heap.size 1 w1 ⟨some ⟨b, 0, none⟩, m, m⟩ := own_row hrow (u1.new (by simp)).1 (by rw [Cod.cells_length]; simp [cU8]) (Nat.le_refl _)
  have hS := strm_r ws vs
  refine ⟨fun t i w' => Upd [] [] w w' ∧ Own w.heap.size 1 w' ⟨some ⟨b, 0, none⟩, m, m⟩ ∧ ∃ q : Nat, i = q ∧ q ≤ ws.length ∧ t = (wsum (ws.take q) : Nat) ∧ SeesB w' ⟨some ⟨b, 0, none⟩, m, m⟩ (bytesT (strm ws vs) m (wsum (ws.take q))),
    fun _ i _ => (ws.length - i).toNat, ⟨u1.forget, ho1, 0, rfl, by omega, by simp [wsum], by simpa [wsum] using hs1⟩, ?_⟩
  rintro t i w2 ⟨u2, o2, q, rfl, hq, rfl, s2⟩
  have hw2 := hw.old u2
  have hv2 := hv.old u2
  refine brd (fun hlt => ?_) (fun hge => ?_)
  · have hq2 : q < ws.length := by omega
    have hq3 : q < vs.length := by omega
    have hwq := v.each _ (List.getElem_mem hq2)
    have hrq := hr q hq2
    have hts := wsum_take_succ hq2
    have htl := wsum_take_le ws (q + 1)
    refine needI hw2 (by omega) (by omega) ⟨_, (by rw [Int.toNat_natCast]; exact intAt hw2 q hq2), needI hv2 (by omega) (by omega) ⟨_, (by rw [Int.toNat_natCast]; exact intAt hv2 q hq3), fun J hJ => ?_⟩⟩
    refine brd (fun hg => absurd hg (by omega)) (fun _ => need (by rw [u64_id (by omega) (by omega)]; simp; omega) ?_)
    have e1 : gshr .i64 vs[q] (wr .u64 ws[q]) = 0 := by
      rw [u64_id (by omega) (by omega), gshr_i64 _ _ (by omega), Int.fdiv_eq_ediv_of_nonneg _ (Int.le_of_lt (Int.pow_pos (by decide)))]
      exact Int.ediv_eq_zero_of_lt hrq.1 hrq.2
    rw [e1]
    refine brf (by simp) (hJ _ ?_)
    clear hJ
    rw [wr_i64 (x := ws[q] - 1) (by omega) (by omega)]
    refine ⟨fun t' i' w' => Upd [] [] w w' ∧ Own w.heap.size 1 w' ⟨some ⟨b, 0, none⟩, m, m⟩ ∧ ∃ n : Nat, i' = ws[q] - 1 - n ∧ n ≤ (ws[q]).toNat ∧ t' = (wsum (ws.take q) + n : Nat) ∧ SeesB w' ⟨some ⟨b, 0, none⟩, m, m⟩ (bytesT (strm ws vs) m (wsum (ws.take q) + n)),
      fun _ i' _ => (i' + 1).toNat, ⟨u2, o2, 0, by omega, by omega, by simp, by simpa using s2⟩, ?_⟩
    rintro t' i' w3 ⟨u3, o3, n, rfl, hn, rfl, s3⟩
    refine brd (fun hlt2 => ?_) (fun hge2 => ?_)
    · have et : wr .i64 (Int.tdiv ((wsum (ws.take q) + n : Nat) : Int) 8) = (((wsum (ws.take q) + n) / 8 : Nat) : Int) := by rw [tdiv_pos (by omega), wr_i64 (by omega) (by omega)]; omega
      have hi8 : (wsum (ws.take q) + n) / 8 < m := by omega
      rw [et]
      refine needIxT (by omega) (by omega) ⟨_, (by rw [Int.toNat_natCast]; exact byteC s3 _ (by rw [bytesT_len]; exact hi8)), ?_⟩
      rw [bytesT_bt hi8]
      refine need (by rw [u64_id (by omega) (by omega)]; simp; omega) (need (by rw [tmod_pos (by omega), u64_id (n := ((wsum (ws.take q) + n : Nat) : Int) % 8) (by omega) (by omega), u64_id (by omega) (by omega)]; simp; omega) (needIxT (by omega) (by omega) ?_))
      have ei : ws[q] - 1 - (n : Int) = (((ws[q]).toNat - 1 - n : Nat) : Int) := by omega
      rw [ei, bit_put (byteT_r hS _ _) (byteT_step hS _).2 (by omega), Int.toNat_natCast]
      refine own_set (c := cU8) (x := byteT (strm ws vs) (wsum (ws.take q) + n) ((wsum (ws.take q) + n) / 8) + vs[q] / 2 ^ ((ws[q]).toNat - 1 - n) % 2 * 2 ^ (7 - (wsum (ws.take q) + n) % 8)) s3 o3 (by decide) (by rw [bytesT_len]; exact hi8) rfl (by simp) fun w4 s4 o4 u4 => ?_
      rw [← strm_at ws vs q n hq2 hq3 (by omega), bytesT_set hS] at s4
      have hb : ∀ x ∈ (⟨some ⟨b, 0, none⟩, m, m⟩ : Sl).blk, w.heap.size ≤ x := fun x hx => (o3.blk x hx).1
      rw [← ei]
      refine ⟨⟨u3.step0 u4 hb, o4, n + 1, ?_, by omega, ?_, s4⟩, ?_⟩
      · rw [wr_i64 (by omega) (by omega)]; omega
      · rw [wr_i64 (by omega) (by omega)]; omega
      · rw [wr_i64 (x := ws[q] - 1 - (n : Int) - 1) (by omega) (by omega)]; (try dsimp only); omega
    · have hnq : n = (ws[q]).toNat := by omega
      subst hnq
      refine ⟨⟨u3, o3, q + 1, wr_succ (by omega), by omega, by rw [hts], by rw [hts]; exact s3⟩, by rw [wr_succ (q := q) (by omega)]; (try dsimp only); omega⟩
  · have hqe : q = ws.length := by omega
    subst hqe
    rw [List.take_length] at s2
    exact k _ w2 u2 s2 o2
end Go.Vc.S6
end

section
section
open Go Go.Vc Go.Proofs
set_option linter.unusedVariables false
set_option linter.unusedSimpArgs false
set_option autoImplicit false
namespace Go.Vc.S6

theorem c92 {n : Int} {w : World} {R : SV → World → Prop} (h0 : 0 ≤ n) (h1 : n < 9223372036854775808) (k : R (.int .i64 (fd n)) w) : Ret Tryd.prog 92 [.int .i64 n] w R := by
  refine f92_of _ _ _ ?_
  unfold vc92
  refine ⟨fun m w1 => w1 = w ∧ 0 ≤ m ∧ m < 9223372036854775808 ∧ fd m = fd n, fun m _ => m.toNat, ⟨rfl, h0, h1, rfl⟩, ?_⟩
  rintro m w1 ⟨rfl, a, b, c⟩
  refine brd (fun h => ?_) (fun h => ?_)
  · rw [and_65535, gshr16, wr_i64 (by omega) (by omega)]
    exact ⟨⟨rfl, by omega, by omega, by rw [fd_step h]; exact c⟩, by dsimp only; omega⟩
  · rw [fd_id a (by omega)] at c
    rw [c]; exact k

theorem c78 {parts : Sl} {ls : List (List Int)} {ss : List Sl} {w : World} {R : SV → World → Prop} (h : Parts w parts ls ss) (hb : ∀ l ∈ ls, Byt l) (hn : ls.length < 9223372036854775807) (hl : ∀ l ∈ ls, l.length ≤ 140737488355328)
    (k : R (.int .i64 (sumOf ls.flatten)) w) : Ret Tryd.prog 78 [.slice parts] w R := by
  refine f78_of _ _ _ ?_
  unfold vc78
  refine ⟨fun n b i w1 => w1 = w ∧ ∃ q : Nat, i = q ∧ q ≤ ls.length ∧ n = fd (ws true (ls.take q).flatten) ∧ b = par true (ls.take q).flatten.length, fun _ _ i _ => (ls.length - i).toNat, ⟨rfl, 0, rfl, by omega, by simp [ws, fd], by simp [par]⟩, ?_⟩
  rintro n b i w1 ⟨rfl, q, rfl, hq, rfl, rfl⟩
  have hw0 := ws_nonneg true (byt_flat_take hb q)
  have hf0 := fd_range hw0.1
  refine brd (fun hlt => ?_) (fun hge => ?_)
  · rw [h.slen] at hlt
    refine needP h (by omega) hlt ?_
    obtain ⟨h1, h2, hc, hs, hp⟩ := h.get (i := (q : Int)) (by omega) hlt
    refine ⟨_, hc, ?_⟩
    simp only [Int.toNat_natCast] at hs h1 h2 ⊢
    have hbp : Byt ls[q] := hb _ (List.getElem_mem _)
    have hlp := hl _ (List.getElem_mem h2)
    refine ⟨fun n b j w2 => w2 = w1 ∧ ∃ t : Nat, j = t ∧ t ≤ ls[q].length ∧ n = fd (ws true (ls.take q).flatten) + ws (par true (ls.take q).flatten.length) (ls[q].take t) ∧ b = par (par true (ls.take q).flatten.length) t,
      fun _ _ j _ => (ls[q].length - j).toNat, ⟨rfl, 0, rfl, by omega, by simp [ws], by simp [par]⟩, ?_⟩
    rintro n b j w2 ⟨rfl, t, rfl, ht, rfl, rfl⟩
    have hw1 := ws_nonneg (par true (ls.take q).flatten.length) (hbp.take t)
    have hlt1 : ((ls[q].take t).length : Int) ≤ 140737488355328 := by rw [List.length_take]; omega
    refine brd (fun hlt2 => ?_) (fun hge2 => ?_)
    · rw [hs.len] at hlt2
      refine needB hs (by omega) hlt2 ?_
      refine ⟨_, hs.byte (by omega) hlt2, ?_⟩
      have hbb := hbp.bt (t : Int)
      have hls : ((ls[q].take t).length : Int) = t := by rw [List.length_take]; omega
      have hsn := ws_snoc (ls[q].take t) ls[q][t] (par true (ls.take q).flatten.length)
      rw [← take_snoc (by omega), ← bt_nat (by omega)] at hsn
      have hbt : par (par true (ls.take q).flatten.length) (ls[q].take t).length = par (par true (ls.take q).flatten.length) t := by congr 1; rw [List.length_take]; omega
      rw [hbt] at hsn
      rw [wr_i64 (x := bt ls[q] t) (by omega) (by omega), gshl8, wr_i64 (x := bt ls[q] t * 256) (by omega) (by omega), wr_i64 (x := (t : Int) + 1) (by omega) (by omega)]
      refine fun J hJ => brb (fun e => ?_) (fun e => ?_)
      · rw [e] at hsn
        refine hJ _ _ ⟨⟨rfl, t + 1, by push_cast; rfl, by omega, ?_, ?_⟩, by dsimp only; omega⟩
        · rw [hsn, wr_i64 (by omega) (by omega)]; simp; omega
        · rw [← par_succ]; simp only [par]; split <;> rfl
      · rw [e] at hsn
        refine hJ _ _ ⟨⟨rfl, t + 1, by push_cast; rfl, by omega, ?_, ?_⟩, by dsimp only; omega⟩
        · rw [hsn, wr_i64 (by omega) (by omega)]; simp; omega
        · rw [← par_succ]; simp only [par]; split <;> rfl
    · have ht' : t = ls[q].length := by rw [hs.len] at hge2; omega
      subst ht'
      rw [List.take_length] at hw1 ⊢
      refine c92 (by omega) (by omega) ⟨_, rfl, ⟨rfl, q + 1, ?_, by omega, ?_, ?_⟩, ?_⟩
      · rw [wr_i64 (by omega) (by omega)]; push_cast; rfl
      · rw [flat_snoc h2, ws_app, fd_add' hw0.1 hw1.1]
      · rw [flat_snoc h2, List.length_append]
        rw [par_par]
      · rw [wr_i64 (by omega) (by omega)]; omega
  · rw [h.slen] at hge
    have : q = ls.length := by omega
    subst this
    rw [List.take_length]
    exact k

theorem c64 {parts : Sl} {ls : List (List Int)} {ss : List Sl} {w : World} {R : SV → World → Prop} (h : Parts w parts ls ss) (hb : ∀ l ∈ ls, Byt l) (hn : ls.length < 9223372036854775807) (hl : ∀ l ∈ ls, l.length ≤ 140737488355328)
    (k : R (.int .i64 (65535 - sumOf ls.flatten)) w) : Ret Tryd.prog 64 [.slice parts] w R := by
  refine f64_of _ _ _ ?_
  unfold vc64
  refine c78 h hb hn hl ⟨_, rfl, ?_⟩
  have := fd_range (ws_nonneg true (byt_flat hb)).1
  rw [wr_i64 (by unfold sumOf; omega) (by unfold sumOf; omega)]
  exact k
theorem c44 {parts : Sl} {ls : List (List Int)} {ss : List Sl} {w : World} {R : SV → World → Prop} (h : Parts w parts ls ss) (hb : ∀ l ∈ ls, Byt l) (hn : ls.length < 9223372036854775807) (hl : ∀ l ∈ ls, l.length ≤ 140737488355328)
    (k : R (.bool (sumOf ls.flatten == 65535)) w) : Ret Tryd.prog 44 [.slice parts] w R := by
  refine f44_of _ _ _ ?_
  unfold vc44
  exact c78 h hb hn hl ⟨_, rfl, k⟩
end Go.Vc.S6
end
section
open Go Go.Vc Go.Proofs
set_option linter.unusedVariables false
set_option linter.unusedSimpArgs false
set_option autoImplicit false
namespace Go.Vc.S6

theorem c95 {n : Int} {w : World} {R : SV → World → Prop} (h0 : 0 ≤ n) (h1 : n < 9223372036854775808) (k : R (.int .i64 (fd n)) w) : Ret Tryd.prog 95 [.int .i64 n] w R := by
  refine f95_of _ _ _ ?_
  unfold vc95
  refine bre (fun h => ?_) (fun h => ?_)
  · subst h; exact k
  · rw [wr_i64 (x := n - 1) (by omega) (by omega), tmod_pos (by omega), wr_i64 (by omega) (by omega)]
    unfold fd at k
    rw [if_neg h] at k
    exact k

theorem c91 {parts : Sl} {ls : List (List Int)} {ss : List Sl} {w : World} {R : SV → World → Prop} (h : Parts w parts ls ss) (hb : ∀ l ∈ ls, Byt l) (hn : ls.length < 9223372036854775807) (hl : ls.flatten.length ≤ 140737488355328)
    (k : R (.int .i64 (sumOf ls.flatten)) w) : Ret Tryd.prog 91 [.slice parts] w R := by
  refine f91_of _ _ _ ?_
  unfold vc91
  refine ⟨fun at_ n i w1 => w1 = w ∧ ∃ q : Nat, i = q ∧ q ≤ ls.length ∧ at_ = ((ls.take q).flatten.length : Nat) ∧ n = ws true (ls.take q).flatten, fun _ _ i _ => (ls.length - i).toNat, ⟨rfl, 0, rfl, by omega, by simp, by simp [ws]⟩, ?_⟩
  rintro at_ n i w1 ⟨rfl, q, rfl, hq, rfl, rfl⟩
  have hw0 := ws_nonneg true (byt_flat_take hb q)
  have hf := flat_le ls q
  refine brd (fun hlt => ?_) (fun hge => ?_)
  · rw [h.slen] at hlt
    obtain ⟨h1, h2, hc, hs, hp⟩ := h.get (i := (q : Int)) (by omega) hlt
    simp only [Int.toNat_natCast] at hs h1 h2 hc
    have hfs := flat_snoc h2
    have hf1 := flat_le ls (q + 1)
    rw [hfs, List.length_append] at hf1
    have hbp : Byt ls[q] := hb _ (List.getElem_mem _)
    refine ⟨fun at_ n j w2 => w2 = w1 ∧ ∃ t : Nat, j = t ∧ t ≤ ls[q].length ∧ at_ = ((ls.take q).flatten.length + t : Nat) ∧ n = ws true (ls.take q).flatten + ws (par true (ls.take q).flatten.length) (ls[q].take t),
      fun _ _ j _ => (ls[q].length - j).toNat, ⟨rfl, 0, rfl, by omega, by simp, by simp [ws]⟩, ?_⟩
    rintro at_ n j w2 ⟨rfl, t, rfl, ht, rfl, rfl⟩
    refine needP h (by omega) hlt ⟨_, (by rw [Int.toNat_natCast]; exact hc), ?_⟩
    have hw1 := ws_nonneg (par true (ls.take q).flatten.length) (hbp.take t)
    have hls : ((ls[q].take t).length : Int) = t := by rw [List.length_take]; omega
    refine brd (fun hlt2 => ?_) (fun hge2 => ?_)
    · refine fun J hJ => needP h (by omega) hlt ⟨_, (by rw [Int.toNat_natCast]; exact hc), ?_⟩
      rw [hs.len] at hlt2
      refine needB hs (by omega) hlt2 ⟨_, hs.byte (by omega) hlt2, ?_⟩
      have hbb := hbp.bt (t : Int)
      have hsn := ws_snoc (ls[q].take t) ls[q][t] (par true (ls.take q).flatten.length)
      rw [← take_snoc (by omega), ← bt_nat (by omega)] at hsn
      have hbt : par (par true (ls.take q).flatten.length) (ls[q].take t).length = decide (((ls.take q).flatten.length + t) % 2 = 0) := by
        rw [par_par, List.length_take, Nat.min_eq_left ht]; unfold par; split <;> simp_all
      rw [hbt] at hsn
      refine fun J1 hJ1 => bre (fun e => ?_) (fun e => ?_)
      all_goals
        rw [tmod_pos (by omega)] at e
        refine hJ1 _ _ (hJ _ _ _ ⟨⟨rfl, t + 1, ?_, by omega, ?_, ?_⟩, ?_⟩)
        · rw [wr_i64 (by omega) (by omega)]; push_cast; rfl
        · rw [wr_i64 (by omega) (by omega)]; push_cast; omega
        · first
            | rw [if_pos (decide_eq_true (by omega))] at hsn
            | rw [if_neg (by rw [decide_eq_true_eq]; omega)] at hsn
          first
            | rw [wr_i64 (x := bt ls[q] t) (by omega) (by omega), wr_i64 (x := bt ls[q] t * 256) (by omega) (by omega), wr_i64 (by omega) (by omega)]; omega
            | rw [wr_i64 (x := bt ls[q] t) (by omega) (by omega), wr_i64 (by omega) (by omega)]; omega
        · rw [wr_i64 (x := (t : Int) + 1) (by omega) (by omega)]; (try dsimp only); omega
    · have ht' : t = ls[q].length := by rw [hs.len] at hge2; omega
      subst ht'
      rw [List.take_length]
      refine ⟨⟨rfl, q + 1, ?_, by omega, ?_, ?_⟩, ?_⟩
      · rw [wr_i64 (by omega) (by omega)]; push_cast; rfl
      · rw [hfs, List.length_append]
      · rw [hfs, ws_app]
      · rw [wr_i64 (by omega) (by omega)]; (try dsimp only); omega
  · rw [h.slen] at hge
    have : q = ls.length := by omega
    subst this
    rw [List.take_length] at hw0 ⊢
    exact c95 (by omega) (by omega) ⟨_, rfl, k⟩
theorem c71 {parts : Sl} {ls : List (List Int)} {ss : List Sl} {w : World} {R : SV → World → Prop} (h : Parts w parts ls ss) (hb : ∀ l ∈ ls, Byt l) (hn : ls.length < 9223372036854775807) (hl : ls.flatten.length ≤ 140737488355328)
    (k : R (.int .i64 (65535 - sumOf ls.flatten)) w) : Ret Tryd.prog 71 [.slice parts] w R := by
  refine f71_of _ _ _ ?_
  unfold vc71
  refine c91 h hb hn hl ⟨_, rfl, ?_⟩
  have := fd_range (ws_nonneg true (byt_flat hb)).1
  rw [wr_i64 (by unfold sumOf; omega) (by unfold sumOf; omega)]
  exact k
theorem c84 {parts : Sl} {ls : List (List Int)} {ss : List Sl} {w : World} {R : SV → World → Prop} (h : Parts w parts ls ss) (hb : ∀ l ∈ ls, Byt l) (hn : ls.length < 9223372036854775807) (hl : ls.flatten.length ≤ 140737488355328)
    (k : R (.bool (sumOf ls.flatten == 65535)) w) : Ret Tryd.prog 84 [.slice parts] w R := by
  refine f84_of _ _ _ ?_
  unfold vc84
  exact c91 h hb hn hl ⟨_, rfl, k⟩

end Go.Vc.S6
end
end

section
namespace Go.Vc
set_option linter.unusedVariables false
set_option linter.unusedSimpArgs false
set_option autoImplicit false
/-- bytes copied into the middle of a row -/
theorem copy_mid {w : World} {b e n cap o : Nat} {pre mid post cs : List Value} {d x : Sl} {m : List Int} {bs : List Nat} {F : World → Prop} (h : w.heap[b]? = some (.cells cs.toArray e (0, 0))) (hcs : cs = pre ++ mid ++ post) (hx : SeesB w x m)
    (hd : d = ⟨some ⟨b, o, none⟩, n, cap⟩) (ho : o = pre.length) (hn : n ≤ m.length) (hm : mid.length = n) (hbs : b ∉ bs)
    (k : ∀ w1, w1.heap[b]? = some (.cells (pre ++ cU8.cells (m.take n) ++ post).toArray e (0, 0)) → Upd [b] [] w w1 → F w1) : Copy 1 d x bs w F := by
  subst hd hcs ho
  have hxl := hx.len
  have hl : (cU8.cells (m.take n)).length = n := by rw [Cod.cells_length, List.length_take]; simp [cU8]; omega
  refine ⟨cU8.cells (m.take n), ?_, ?_⟩
  · have := (hx.take (n := n) hn 0).rowAt
    rw [show Nat.min x.len n * 1 = n * cU8.sz by rw [show cU8.sz = 1 from rfl, hxl]; simp [Nat.min_def]; omega]
    exact this
  · refine ⟨fun i hi => ?_, hbs, ?_⟩
    · rw [add_none, cell_of_block h, frozen_of_block h]
      refine ⟨?_, rfl⟩
      simp; omega
    · refine k _ ?_ ((Upd.setCells w b _ _).wide (by simp))
      exact setCells_at b e (0, 0) _ pre mid post w h (by omega)
theorem cells_range (n : Nat) (f : Nat → Int) : SV.cells (.arr .u8 n f) = (List.range n).map fun i => Value.int .u8 (f i) := rfl
theorem u8cells (l : List Int) : cU8.cells l = l.map fun n => Value.int .u8 n := Cod.cells_map1 (fun _ => rfl) l
/-- a piece of a slice that is all but its own pointer -/
theorem sub_lit {b o n cap h m : Nat} (hm : m ≠ 0) : Sl.sub ⟨some ⟨b, o, none⟩, n, cap⟩ 1 0 h m = ⟨some ⟨b, o, none⟩, h, m⟩ := by
  unfold Sl.sub
  rw [if_neg hm]
  simp
theorem sub_ptr {s : Sl} {lo hi m : Nat} (h : s.ptr.isSome = true) : (s.sub 1 lo hi m).ptr.isSome = true := by
  unfold Sl.sub
  simp only
  split <;> simp [h]
theorem Off.ne {b : Nat} {l : List Nat} (h : Off b l) : b ∉ l := h
end Go.Vc
end

section
open Go Go.Vc Go.Proofs
set_option linter.unusedVariables false
set_option linter.unusedSimpArgs false
set_option autoImplicit false
namespace Go.Vc.S6

theorem c60 {n : Int} {w : World} {R : SV → World → Prop} (k : R (.bool (n == 1)) w) : Ret Tryd.prog 60 [.int .i64 n] w R := f60_of _ _ _ k
theorem c63 {b : Bool} {w : World} {R : SV → World → Prop} (k : R (.int .i64 (if b then 1 else 0)) w) : Ret Tryd.prog 63 [.bool b] w R := by
  refine f63_of _ _ _ ?_
  unfold vc63
  cases b
  · exact brf rfl k
  · exact brt rfl k
theorem c21 {n : Int} {w : World} {R : SV → World → Prop} (k : R (.int .i64 n) w) : Ret Tryd.prog 21 [.int .i64 n] w R := f21_of _ _ _ k
theorem c68 {n hi : Int} {w : World} {R : SV → World → Prop} (k : R (.bool (decide (outN n hi))) w) : Ret Tryd.prog 68 [.int .i64 n, .int .i64 hi] w R := by
  refine f68_of _ _ _ _ ?_
  unfold vc68
  refine brd (fun h => ?_) (fun h => ?_)
  · rw [decide_eq_true (show outN n hi by unfold outN; omega)] at k; exact k
  · rw [show decide (outN n hi) = decide (n > hi) by rw [decide_eq_decide]; unfold outN; omega] at k; exact k
theorem c72 {n hi : Int} {w : World} {R : SV → World → Prop} (k : R (.bool (decide (outN n hi))) w) : Ret Tryd.prog 72 [.int .i64 n, .int .i64 hi] w R := by
  refine f72_of _ _ _ _ ?_
  unfold vc72
  refine brd (fun h => ?_) (fun h => ?_)
  · rw [decide_eq_true (show outN n hi by unfold outN; omega)] at k; exact k
  · rw [show decide (outN n hi) = decide (n > hi) by rw [decide_eq_decide]; unfold outN; omega] at k; exact k
theorem frag_t {off n : Int} (h : n = 0 ∨ n % 8 ≠ 0 ∨ 65515 < off + n) : frag true off n := by unfold frag; simp; omega
theorem frag_n {mf : Bool} {off n : Int} (h : ¬ 65515 < off + n) (h2 : mf = true → n ≠ 0 ∧ n % 8 = 0) : ¬ frag mf off n := by
  unfold frag
  rintro (⟨h3, h4⟩ | h3)
  · have := h2 h3; omega
  · exact h h3
theorem c59 {mf : Bool} {off n : Int} {w : World} {R : SV → World → Prop} (h0 : -9223372036854775808 ≤ off + n) (h1 : off + n ≤ 9223372036854775807) (hn : 0 ≤ n) (k : R (.int .i64 (if frag mf off n then 66 else 0)) w) : Ret Tryd.prog 59 [.bool mf, .int .i64 off, .int .i64 n] w R := by
  refine f59_of _ _ _ _ _ ?_
  unfold vc59
  rw [wr_i64 h0 h1, tmod_pos hn]
  have y : frag mf off n → R (.int .i64 66) w := fun h => by rw [if_pos h] at k; exact k
  have z : ¬ frag mf off n → R (.int .i64 0) w := fun h => by rw [if_neg h] at k; exact k
  cases mf
  · refine brf rfl (brd (fun g => y (.inr g)) (fun g => z (frag_n (by omega) (by simp))))
  · refine brt rfl (bre (fun g => y (frag_t (.inl g))) (fun g1 => bre' (fun g => y (frag_t (.inr (.inl g)))) (fun g2 => brd (fun g => y (.inr g)) (fun g => z (frag_n (by omega) (fun _ => ⟨g1, g2⟩))))))
theorem c74 {mf : Bool} {off n : Int} {w : World} {R : SV → World → Prop} (h0 : -9223372036854775808 ≤ off + n) (h1 : off + n ≤ 9223372036854775807) (hn : 0 ≤ n) (k : R (.bool (decide (frag mf off n))) w) : Ret Tryd.prog 74 [.bool mf, .int .i64 off, .int .i64 n] w R := by
  refine f74_of _ _ _ _ _ ?_
  unfold vc74
  rw [wr_i64 h0 h1, tmod_pos hn]
  have y : frag mf off n → R (.bool true) w := fun h => by rw [decide_eq_true h] at k; exact k
  have z : decide (frag mf off n) = decide (off + n > 65515) → R (.bool (decide (off + n > 65515))) w := fun h => by rw [h] at k; exact k
  cases mf
  · refine brf rfl (z (by rw [decide_eq_decide]; unfold frag; simp))
  · refine brt rfl (bre (fun g => y (frag_t (.inl g))) (fun g1 => bre' (fun g => y (frag_t (.inr (.inl g)))) (fun g2 => z (by rw [decide_eq_decide]; unfold frag; simp; omega))))

def fourB (v : Int) (a : Nat → Int) : Bool := v == 4 && (List.range 12).all fun i => a (i + 4) == 0
theorem fourB_iff {v : Int} {a : Nat → Int} : fourB v a = true ↔ four v a := by
  unfold fourB four
  simp only [Bool.and_eq_true, beq_iff_eq, List.all_eq_true, List.mem_range]
  refine and_congr Iff.rfl ⟨fun h i h1 h2 => ?_, fun h i hi => h _ (by omega) (by omega)⟩
  have := h (i - 4) (by omega)
  rwa [show i - 4 + 4 = i by omega] at this
theorem arr_split (a : Nat → Int) : SV.cells (.arr .u8 16 a) = ((List.range 4).map fun i => Value.int .u8 (a i)) ++ ((List.range 12).map fun i => Value.int .u8 (a (i + 4))) := rfl

theorem c61 {b : Sl} {l : List Int} {w : World} {R : SV → World → Prop} (h : SeesB w b l) (hl : 4 ≤ l.length) (k : ∀ f w1, Upd [] [] w w1 → (∀ i, i < 16 → f i = adrAt l 0 i) → R (.struct [.int .i64 4, .arr .u8 16 f]) w1) : Ret Tryd.prog 61 [.slice b] w R := by
  refine f61_of _ _ _ ?_
  unfold vc61
  intro b1 b2 w1 u1 hrow hoff
  have n2 := u1.new (b := b2) (by simp)
  have n1 := u1.new (b := b1) (by simp)
  refine copy_mid (pre := [.int .i64 4]) (mid := (List.range 4).map fun i => Value.int .u8 0) (post := (List.range 12).map fun i => Value.int .u8 0) hrow rfl (h.old u1) (sub_lit (by omega)) rfl hl (by simp) hoff fun w2 hr2 u2 => ?_
  refine ⟨4, by rw [cell_of_block hr2]; rfl, fun i => if i < 4 then bt l (i : Int) else 0, fun i hi => ?_, fun w3 u3 => k _ _ ((u1.step0 u2 (by simp; omega)).step0 u3 (by simp; omega)) (fun i hi => by unfold adrAt; simp)⟩
  rw [add_none, cell_of_block hr2, u8cells]
  simp only [List.getElem?_toArray]
  by_cases hi4 : i < 4
  · rw [if_pos hi4]
    rw [List.append_assoc, List.getElem?_append_right (by simp), List.getElem?_append_left (by simp; omega)]
    simp only [List.length_singleton, Nat.zero_add, Nat.add_sub_cancel_left]
    rw [List.getElem?_map, List.getElem?_take_of_lt hi4, List.getElem?_eq_getElem (by omega), bt_nat (by omega)]
    rfl
  · rw [if_neg hi4]
    rw [List.getElem?_append_right (by simp; omega)]
    rw [List.getElem?_eq_getElem (by simp; omega)]
    simp

theorem c69 {v : Int} {a : Nat → Int} {w : World} {R : SV → World → Prop} (k : ∀ w1, Upd [] [] w w1 → R (.bool (fourB v a)) w1) : Ret Tryd.prog 69 [.struct [.int .i64 v, .arr .u8 16 a]] w R := by
  refine f69_of _ _ _ _ ?_
  unfold vc69
  intro b b1 w1 u1 hr1 hoff hr
  have n1 := u1.new (b := b1) (by simp)
  have hne : b ≠ b1 := fun e => hoff (by simp [e])
  have hblt := (Array.getElem?_eq_some_iff.1 hr).1
  have main : ∀ w2, Upd [] [] w1 w2 → Copy 1 (Sl.sub ⟨some ⟨b1, 0, none⟩, 16, 16⟩ 1 0 4 16) (Sl.sub { ptr := some (Addr.add ⟨b, 0, none⟩ 1), len := 16, cap := 16 } 1 0 4 16) [] w2 fun (w : World) =>
      ∃ (n : Int), World.cell? w ⟨b, 0, none⟩ = some (Value.int .i64 n) ∧
        Br (n == 4) (∃ (f : Nat → Int), (∀ (i : Nat), i < 16 → World.cell? w (Addr.add (Addr.add ⟨b, 0, none⟩ 1) (0 + i)) = some (Value.int .u8 (f i))) ∧ ∃ (f_1 : Nat → Int), (∀ (i : Nat), i < 16 → World.cell? w (Addr.add ⟨b1, 0, none⟩ (0 + i)) = some (Value.int .u8 (f_1 i))) ∧ R (.bool (eqArr 16 f f_1)) w) (R (.bool false) w) := by
    intro w2 u2
    have hr1' := u2.keep b1 (by omega) (by simp)
    rw [hr1] at hr1'
    have hr' := u2.keep b hblt (by simp)
    rw [hr] at hr'
    have hx : SeesB w2 (Sl.sub { ptr := some (Addr.add ⟨b, 0, none⟩ 1), len := 16, cap := 16 } 1 0 4 16) (arrL 4 a) := by
      rw [add_none, sub_lit (by omega)]
      exact rowMid hr' [.int .i64 v] ((List.range 12).map fun i => Value.int .u8 (a (i + 4))) (arrL 4 a) rfl rfl (by rw [arrL_len])
    refine copy_mid (pre := []) (mid := (List.range 4).map fun i => Value.int .u8 0) (post := (List.range 12).map fun i => Value.int .u8 0) hr1' rfl hx (sub_lit (by omega)) rfl (by rw [arrL_len]; omega) (by simp) (by simp) fun w3 hr3 u3 => ?_
    have hr3' := u3.keep b (by have := u2.size; omega) (by simpa using hne)
    rw [hr'] at hr3'
    refine ⟨v, by rw [cell_of_block hr3']; rfl, ?_⟩
    have v3 := (u1.then u2).step0 u3 (by simp; omega)
    have fin : ∀ x, fourB v a = x → R (.bool x) w3 := fun x hx => hx ▸ k w3 v3
    refine bre (fun hv => ⟨a, fun i hi => ?_, fun i => if i < 4 then a i else 0, fun i hi => ?_, fin _ ?_⟩) (fun hv => fin _ ?_)
    · rw [add_none, add_none, cell_of_block hr3']
      simp [SV.cells, SV.cellsL, hi, Nat.add_comm 1]
    · rw [add_none, cell_of_block hr3, u8cells, List.take_of_length_le (by rw [arrL_len]; omega)]
      simp only [List.getElem?_toArray, List.nil_append, Nat.zero_add, arrL, List.map_map]
      by_cases hi4 : i < 4
      · rw [if_pos hi4, List.getElem?_append_left (by simp; omega)]
        simp [hi4]
      · rw [if_neg hi4, List.getElem?_append_right (by simp; omega)]
        rw [List.getElem?_eq_getElem (by simp; omega)]
        simp
    · subst hv
      rw [Bool.eq_iff_iff, eqArr_iff, fourB_iff]
      unfold four
      constructor
      · rintro ⟨_, h⟩ i hi
        by_cases hi4 : i < 4
        · rw [if_pos hi4]
        · rw [if_neg hi4]; exact h i (by omega) hi
      · exact fun h => ⟨rfl, fun i h1 h2 => by have := h i h2; rwa [if_neg (by omega)] at this⟩
    · rw [Bool.eq_false_iff]
      intro h
      exact hv (fourB_iff.1 h).1
  exact ⟨main, main⟩

theorem c73 {v : Int} {a : Nat → Int} {w : World} {R : SV → World → Prop} (k : ∀ w1, Upd [] [] w w1 → R (.bool (fourB v a)) w1) : Ret Tryd.prog 73 [.struct [.int .i64 v, .arr .u8 16 a]] w R := by
  refine f73_of _ _ _ _ ?_
  unfold vc73
  intro b
  have fin : ∀ x w1, Upd [] [] w w1 → fourB v a = x → R (.bool x) w1 := fun x w1 u hx => hx ▸ k w1 u
  refine ⟨fun (i : Int) (w1 : World) => Upd [] [] w w1 ∧ 4 ≤ i ∧ i ≤ 16 ∧ ∀ j : Nat, 4 ≤ j → (j : Int) < i → a j = 0, fun i _ => (16 - i).toNat, fun w1 u => ⟨u.forget, by omega, by omega, fun j h1 h2 => by omega⟩, ?_⟩
  rintro i w1 ⟨u, h4, h16, hj⟩
  refine brd (fun hlt => needIx2 (by omega) hlt ?_) (fun hge => ?_)
  · refine bre' (fun hne => fin _ _ u ?_) (fun he => ?_)
    · rw [Bool.eq_false_iff]
      intro h
      exact hne ((fourB_iff.1 h).2 i.toNat (by omega) (by omega))
    · rw [wr_i64 (by omega) (by omega)]
      refine ⟨rfl, ⟨u, by omega, by omega, fun j h1 h2 => ?_⟩, by (try dsimp only); omega⟩
      by_cases e : (j : Int) = i
      · have : i.toNat = j := by omega
        rw [this] at he; exact he
      · exact hj j h1 (by omega)
  · refine fin _ _ u ?_
    rw [Bool.eq_iff_iff, fourB_iff, beq_iff_eq]
    exact ⟨fun h => h.1, fun h => ⟨h, fun j h1 h2 => hj j h1 (by omega)⟩⟩
theorem c83 {b : Sl} {l : List Int} {i : Nat} {w : World} {R : SV → World → Prop} (h : SeesB w b l) (hb : Byt l) (hi : i + 1 < l.length) (hl : l.length < 9223372036854775807) (k : ∀ w1, Upd [] [] w w1 → R (.int .i64 (W16 l i)) w1) : Ret Tryd.prog 83 [.slice b, .int .i64 (i : Int)] w R := by
  refine f83_of _ _ _ _ ?_
  unfold vc83
  have h1 := hb.bt (i : Int)
  have h2 := hb.bt ((i + 1 : Nat) : Int)
  rw [wr_succ (by omega)]
  refine needB h (by omega) (by omega) ⟨_, h.byte (by omega) (by omega), needB h (by omega) (by omega) ⟨_, h.byte (by omega) (by omega), fun w1 u => ?_⟩⟩
  rw [wr_i64 (x := bt l (i : Int)) (by omega) (by omega), wr_i64 (x := bt l ((i + 1 : Nat) : Int)) (by omega) (by omega), wr_i64 (x := 256 * bt l (i : Int)) (by omega) (by omega), wr_i64 (by omega) (by omega)]
  have := k w1 u
  unfold W16 at this
  rwa [Int.mul_comm] at this
/-- a number of two bytes, written -/
def tw (n : Int) : List Int := [n / 256 % 256, n % 256]
theorem c70 {N : Nat} {b : Sl} {l : List Int} {n : Int} {w : World} {R : SV → World → Prop} (h : SeesB w b l) (o : Own N 1 w b) (hN : N ≤ w.heap.size) (hl : l.length ≤ 70368744177000) (hn : 0 ≤ n ∧ n ≤ 65535)
    (k : ∀ r w1, Upd b.blk [] w w1 → SeesB w1 r (l ++ tw n) → Own N 1 w1 r → R (.slice r) w1) : Ret Tryd.prog 70 [.slice b, .int .i64 n] w R := by
  refine f70_of _ _ _ _ ?_
  unfold vc70
  intro b1 w1 u1 hrow
  rw [tdiv_pos hn.1, tmod_pos hn.1, wr_i64 (by omega) (by omega), wr_u8, wr_u8, show n % 256 % 256 = n % 256 by omega] at hrow
  refine append_own (c := cU8) (new := tw n) (h.old u1) (o.old u1) (rowB hrow _ rfl rfl) (by have := u1.size; omega) (by simp) (by decide) (by simp [tw]; omega) fun r w2 hr ho u2 hn => ?_
  exact k r w2 ((u1.wide (m' := b.blk) (by simp)).step u2 (fun x hx => .inr hx)) hr ho
end Go.Vc.S6
end

section
open Go Go.Vc Go.Proofs
set_option linter.unusedVariables false
set_option linter.unusedSimpArgs false
set_option autoImplicit false
namespace Go.Vc.S6

abbrev ipSV (v : IpV) (s d : Sl) : SV := .struct [.int .i64 v.tos, .int .i64 v.id, .bool v.df, .bool v.mf, .int .i64 v.off, .int .i64 v.ttl, .int .i64 v.proto, .struct [.int .i64 v.sv, .arr .u8 16 v.sa], .struct [.int .i64 v.dv, .arr .u8 16 v.da], .slice s, .slice d]

section
variable {v : IpV} {s d : Sl} {os : List (Int × Sl)} {w : World} {R : SV → World → Prop}
theorem bad68 (h : badF v) : ipChk v = 68 := by unfold ipChk; rw [if_pos h]
theorem chk65 (h : ¬ badF v) (h2 : ¬ putOk v.opts) : ipChk v = 65 := by unfold ipChk; rw [if_neg h, if_pos h2]
theorem chk63 (h : ¬ badF v) (h2 : putOk v.opts) (h3 : 65535 < 20 + (putO v.opts).length + v.data.length) : ipChk v = 63 := by unfold ipChk; rw [if_neg h, if_neg (Classical.not_not.2 h2), if_pos h3]
theorem chk66 (h : ¬ badF v) (h2 : putOk v.opts) (h3 : ¬ 65535 < 20 + (putO v.opts).length + v.data.length) : ipChk v = if frag v.mf v.off v.data.length then 66 else 0 := by unfold ipChk; rw [if_neg h, if_neg (Classical.not_not.2 h2), if_neg h3]

set_option maxRecDepth 10000 in
theorem c33 (hO : Opts w s v.opts os) (hl : v.opts.length < 9223372036854775807) (hod : ∀ o ∈ v.opts, o.data.length ≤ 140737488355328) (hd : d.len = v.data.length) (hdl : v.data.length ≤ 140737488355328)
    (k : ∀ w1, Upd [] [] w w1 → R (.int .i64 (ipChk v)) w1) : Ret Tryd.prog 33 [ipSV v s d] w R := by
  refine f33_of _ _ _ _ _ _ _ _ _ _ _ _ _ _ _ ?_
  unfold vc33
  intro b J hJ w1 u1
  have k1 : ∀ e w2, Upd [] [] w w2 → ipChk v = e → R (.int .i64 e) w2 := fun e w2 u he => he ▸ k w2 u
  have bad : badF v → ∀ w2, Upd [] [] w w2 → R (.int .i64 68) w2 := fun h w2 u => k1 _ _ u (bad68 h)
  refine c68 ⟨_, rfl, kp (Upd.refl _), brd (fun h => bad (.inl h) _ u1.forget) (fun h0 => ?_)⟩
  refine c68 ⟨_, rfl, kp (Upd.refl _), brd (fun h => bad (.inr (.inl h)) _ u1.forget) (fun h1 => ?_)⟩
  refine c68 ⟨_, rfl, kp (Upd.refl _), brd (fun h => bad (.inr (.inr (.inl h))) _ u1.forget) (fun h2 => ?_)⟩
  have h2' : 0 ≤ v.off ∧ v.off ≤ 65528 := by unfold outN at h2; omega
  rw [tmod_pos h2'.1]
  refine bre' (fun h => bad (.inr (.inr (.inr (.inl h)))) _ u1.forget) (fun h3 => ?_)
  refine c68 ⟨_, rfl, kp (Upd.refl _), brd (fun h => bad (.inr (.inr (.inr (.inr (.inl h))))) _ u1.forget) (fun h4 => ?_)⟩
  refine c68 ⟨_, rfl, kp (Upd.refl _), brd (fun h => bad (.inr (.inr (.inr (.inr (.inr (.inl h)))))) _ u1.forget) (fun h5 => ?_)⟩
  refine c69 fun w2 u2 => ⟨_, rfl, kp u2, brn (fun h => bad (.inr (.inr (.inr (.inr (.inr (.inr (.inl (fun hf => by rw [fourB_iff.2 hf] at h; cases h)))))))) _ (u1.then u2)) (fun h6 => ?_)⟩
  refine c69 fun w3 u3 => ⟨_, rfl, kp u3, brn (fun h => bad (.inr (.inr (.inr (.inr (.inr (.inr (.inr (fun hf => by rw [fourB_iff.2 hf] at h; cases h)))))))) _ ((u1.then u2).then u3)) (fun h7 => ?_)⟩
  have good : ¬ badF v := by
    rintro (x | x | x | x | x | x | x | x)
    · exact h0 x
    · exact h1 x
    · exact h2 x
    · exact x h3
    · exact h4 x
    · exact h5 x
    · exact x (fourB_iff.1 h6)
    · exact x (fourB_iff.1 h7)
  refine ⟨rfl, hJ _ ?_⟩
  have v3 := (u1.then u2).then u3
  have hO3 := hO.old v3
  refine c27 hO3 hl hod fun r w4 u4 hr ho => ⟨_, _, rfl, kp u4, ?_⟩
  have v4 := v3.then u4
  have hrl := hr.len
  by_cases hp : putOk v.opts
  · unfold putE
    unfold putL at hrl
    rw [if_pos hp] at hrl ⊢
    have hpl := putO_len hp
    rw [wr_i64 (x := 20 + (r.len : Int)) (by omega) (by omega), wr_i64 (by omega) (by omega)]
    refine brf (by simp) (brd (fun h => k1 _ _ v4 (chk63 good hp (by omega))) (fun h => ?_))
    refine c59 (by omega) (by omega) (by omega) ⟨_, rfl, kp (Upd.refl _), k1 _ _ v4 ?_⟩
    rw [chk66 good hp (by omega), hd]
  · unfold putE
    rw [if_neg hp]
    exact brt (by simp) (k1 _ _ v4 (chk65 good hp))

set_option maxRecDepth 10000 in
theorem c36 (hO : Opts w s v.opts os) (hl : v.opts.length ≤ 4398046511104) (hod : ∀ o ∈ v.opts, o.data.length ≤ 140737488355328) (hd : d.len = v.data.length) (hdl : v.data.length ≤ 140737488355328)
    (k : ∀ w1, Upd [] [] w w1 → R (.int .i64 (ipChk v)) w1) : Ret Tryd.prog 36 [ipSV v s d] w R := by
  refine f36_of _ _ _ _ _ _ _ _ _ _ _ _ _ _ _ ?_
  unfold vc36
  intro b J hJ w1 u1
  have k1 : ∀ e w2, Upd [] [] w w2 → ipChk v = e → R (.int .i64 e) w2 := fun e w2 u he => he ▸ k w2 u
  have bad : badF v → ∀ w2, Upd [] [] w w2 → R (.int .i64 68) w2 := fun h w2 u => k1 _ _ u (bad68 h)
  refine c72 ⟨_, rfl, kp (Upd.refl _), brd (fun h => bad (.inl h) _ u1.forget) (fun h0 => ?_)⟩
  refine c72 ⟨_, rfl, kp (Upd.refl _), brd (fun h => bad (.inr (.inl h)) _ u1.forget) (fun h1 => ?_)⟩
  refine c72 ⟨_, rfl, kp (Upd.refl _), brd (fun h => bad (.inr (.inr (.inl h))) _ u1.forget) (fun h2 => ?_)⟩
  have h2' : 0 ≤ v.off ∧ v.off ≤ 65528 := by unfold outN at h2; omega
  rw [tmod_pos h2'.1]
  refine bre' (fun h => bad (.inr (.inr (.inr (.inl h)))) _ u1.forget) (fun h3 => ?_)
  refine c72 ⟨_, rfl, kp (Upd.refl _), brd (fun h => bad (.inr (.inr (.inr (.inr (.inl h))))) _ u1.forget) (fun h4 => ?_)⟩
  refine c72 ⟨_, rfl, kp (Upd.refl _), brd (fun h => bad (.inr (.inr (.inr (.inr (.inr (.inl h)))))) _ u1.forget) (fun h5 => ?_)⟩
  refine c73 fun w2 u2 => ⟨_, rfl, kp u2, brn (fun h => bad (.inr (.inr (.inr (.inr (.inr (.inr (.inl (fun hf => by rw [fourB_iff.2 hf] at h; cases h)))))))) _ (u1.then u2)) (fun h6 => ?_)⟩
  refine c73 fun w3 u3 => ⟨_, rfl, kp u3, brn (fun h => bad (.inr (.inr (.inr (.inr (.inr (.inr (.inr (fun hf => by rw [fourB_iff.2 hf] at h; cases h)))))))) _ ((u1.then u2).then u3)) (fun h7 => ?_)⟩
  have good : ¬ badF v := by
    rintro (x | x | x | x | x | x | x | x)
    · exact h0 x
    · exact h1 x
    · exact h2 x
    · exact x h3
    · exact h4 x
    · exact h5 x
    · exact x (fourB_iff.1 h6)
    · exact x (fourB_iff.1 h7)
  refine ⟨rfl, hJ _ ?_⟩
  have v3 := (u1.then u2).then u3
  have hO3 := hO.old v3
  refine c35 hO3 hl hod fun r w4 u4 hr ho => ⟨_, _, rfl, kp u4, ?_⟩
  have v4 := v3.then u4
  have hrl := hr.len
  by_cases hp : putOk v.opts
  · unfold putE
    unfold putL at hrl
    rw [if_pos hp] at hrl ⊢
    have hpl := putO_len hp
    rw [wr_i64 (x := 20 + (r.len : Int)) (by omega) (by omega), wr_i64 (by omega) (by omega)]
    refine brf (by simp) (brd (fun h => k1 _ _ v4 (chk63 good hp (by omega))) (fun h => ?_))
    refine c74 (by omega) (by omega) (by omega) ⟨_, rfl, kp (Upd.refl _), ?_⟩
    have e := chk66 (v := v) good hp (by omega)
    rw [hd]
    refine brd (fun hf => k1 _ _ v4 (by rw [e, if_pos hf])) (fun hf => k1 _ _ v4 (by rw [e, if_neg hf]))
  · unfold putE
    rw [if_neg hp]
    exact brt (by simp) (k1 _ _ v4 (chk65 good hp))
end
end Go.Vc.S6
end

section
open Go Go.Vc Go.Proofs
set_option linter.unusedVariables false
set_option linter.unusedSimpArgs false
set_option autoImplicit false
namespace Go.Vc.S6

def widths4 : List Int := [4, 4, 8, 16, 16, 1, 1, 1, 13, 8, 8, 16]
def wid4 : Sl := ⟨some ⟨0, 0, none⟩, 12, 12⟩
theorem wid_ok : Wid widths4 := ⟨by decide, by decide, by decide⟩
theorem fields4 {l : List Int} (hb : Byt l) : fieldsOf l 0 widths4 = [bt l 0 / 16, bt l 0 % 16, bt l 1, W16 l 2, W16 l 4, bt l 6 / 128, bt l 6 / 64 % 2, bt l 6 / 32 % 2, bt l 6 % 32 * 256 + bt l 7, bt l 8, bt l 9, W16 l 10] := by
  have b0 := hb.bt 0; have b1 := hb.bt 1; have b6 := hb.bt 6; have b7 := hb.bt 7
  have e0 := bitsN_in l 0 0 0 rfl 4 (by omega)
  have e1 := bitsN_in l 4 0 4 rfl 4 (by omega)
  have e2 := bitsN_byte hb 1
  have e3 := bitsN_two hb 2
  have e4 := bitsN_two hb 4
  have e5 := bitsN_in l 48 6 0 rfl 1 (by omega)
  have e6 := bitsN_in l 49 6 1 rfl 1 (by omega)
  have e7 := bitsN_in l 50 6 2 rfl 1 (by omega)
  have e8 := bitsN_add l 51 5 8
  have e8a := bitsN_in l 51 6 3 rfl 5 (by omega)
  have e8b := bitsN_byte hb 7
  have e9 := bitsN_byte hb 8
  have e10 := bitsN_byte hb 9
  have e11 := bitsN_two hb 10
  simp only [fieldsOf, widths4, List.cons.injEq, and_true]
  refine ⟨?_, ?_, ?_, ?_, ?_, ?_, ?_, ?_, ?_, ?_, ?_, ?_⟩
  · refine e0.trans ?_; simp; omega
  · refine e1.trans ?_; simp
  · exact e2
  · exact e3
  · exact e4
  · refine e5.trans ?_; simp; omega
  · refine e6.trans ?_; simp
  · refine e7.trans ?_; simp
  · refine e8.trans ?_
    rw [e8a]
    have : bitsN l (51 + 5) 8 = bt l 7 := e8b
    rw [this]; simp
  · exact e9
  · exact e10
  · exact e11
theorem hdN_int {l : List Int} (hb : Byt l) : 4 * (bt l 0 % 16) = (hdN l : Int) := by
  have := hb.bt 0
  unfold hdN; omega
theorem totN_int {l : List Int} (hb : Byt l) : W16 l 2 = (totN l : Int) := by
  have := W16_r hb 2
  unfold totN; omega

/-- the slices that Parse answers -/
def dOf (b : Sl) (l : List Int) : Sl := if ipErr l = 0 then b.sub 1 (hdN l) (totN l) (totN l) else ⟨none, 0, 0⟩
def osOf (b : Sl) (l : List Int) : List (Int × Sl) := if ipErr l = 0 then (psOf l).map (osAt (b.sub 1 20 (hdN l) (hdN l)) (obL l)) else []
theorem dOf_sees {w : World} {b : Sl} {l : List Int} (h : SeesB w b l) : SeesB w (dOf b l) (ipOf l).data := by
  unfold dOf ipOf
  by_cases e : ipErr l = 0
  · rw [if_pos e, if_pos e]
    obtain ⟨_, _, _, _, _, h6, h7, _⟩ := ipErr_ok e
    exact h.subB h6 h7 (Nat.le_refl _)
  · rw [if_neg e, if_neg e]; exact Sees.nil _ _ _ _
theorem osOf_opts {w : World} {b s : Sl} {l : List Int} (hb : Byt l) (h : SeesB w b l) (hs : Sees cOpt w s (osOf b l)) : Opts w s (ipOf l).opts (osOf b l) := by
  unfold osOf ipOf at *
  by_cases e : ipErr l = 0
  · rw [if_pos e] at hs ⊢
    rw [if_pos e]
    obtain ⟨_, _, _, h4, h5, _, _, _, h9, _⟩ := ipErr_ok e
    have hsub := h.subB (lo := 20) (hi := hdN l) (mx := hdN l) h4 h5 (Nat.le_refl _)
    exact opts_win hs hsub (optsP_places ok4_two (obL_byt hb) h9).1
  · rw [if_neg e] at hs ⊢
    rw [if_neg e]
    exact ⟨hs, rfl, by simp [ipZ], by simp [ipZ]⟩

set_option maxRecDepth 10000 in
theorem c20 {b : Sl} {l : List Int} {w : World} {R : SV → World → Prop} (hg : Sees cI64 w wid4 widths4) (h : SeesB w b l) (hb : Byt l) (hc : b.len ≤ b.cap) (hl : l.length ≤ 140737488355328)
    (k : ∀ v s w1, IpEq v (ipOf l) → Upd [] [] w w1 → Sees cOpt w1 s (osOf b l) → Own w.heap.size 2 w1 s → R (.tuple [ipSV v s (dOf b l), .int .i64 (ipErr l)]) w1) : Ret Tryd.prog 20 [.slice b] w R := by
  refine f20_of _ _ _ ?_
  unfold vc20
  have hlen := h.len
  rw [hlen]
  have ke : ∀ e w1, Upd [] [] w w1 → ipErr l = e → e ≠ 0 → R (.tuple [ipSV ipZ ⟨none, 0, 0⟩ ⟨none, 0, 0⟩, .int .i64 e]) w1 := fun e w1 u he hn => by
    have hn' : ¬ ipErr l = 0 := by omega
    have := k ipZ ⟨none, 0, 0⟩ w1 (by unfold ipOf; rw [if_neg hn']; exact .refl _) u (by unfold osOf; rw [if_neg hn']; exact Sees.nil _ _ _ _) (Own.none _ _ _)
    unfold dOf at this
    rwa [if_neg hn', he] at this
  intro b1
  have ke' := ke
  unfold ipErr at ke
  refine brd (fun hgt w1 u => ke _ _ u.forget (by rw [if_pos (by omega)]) (by decide)) (fun hle => ?_)
  rw [if_neg (by omega)] at ke
  refine brd (fun hgt w1 u => ke _ _ u.forget (by rw [if_pos (by omega)]) (by decide)) (fun h20 => ?_)
  rw [if_neg (by omega)] at ke
  refine ⟨fun i => widths4.getD i 0, fun i hi => ?_, ?_⟩
  · have := intAt hg i hi
    rw [show wid4.at 1 i = (Addr.add ⟨0, 0, none⟩ (0 + i)) by simp [Sl.at, wid4]] at this
    rw [this]
    simp only [List.getD_eq_getElem?_getD, List.getElem?_eq_getElem (show i < widths4.length from hi), Option.getD_some]
    rfl
  intro b2 w1 u1 hr1 _
  have hb1 := u1.new (b := b1) (by simp)
  have y1 := u1.size
  have hws : Sees cI64 w1 (Sl.sub ⟨some ⟨b2, 0, none⟩, 12, 12⟩ 1 0 12 12) widths4 := by
    have : Sees cI64 w1 ⟨some ⟨b2, 0, none⟩, 12, 12⟩ widths4 := sees_row hr1 _ rfl rfl
    rw [sub_lit (by omega)]; exact this
  have g := wid_ok
  refine c58 (h.old u1) hb hc (by omega) hws g (by show 12 ≤ l.length; omega) fun F n w2 u2 hF => ⟨_, _, _, rfl, kp u2, ?_⟩
  rw [fields4 hb] at hF
  have v2 := u1.then u2
  have fr1 : ∀ x ∈ [b1], w.heap.size ≤ x := by simp; omega
  have hFl := hF.len
  have hFp := hF.isSome (by decide) (by simp)
  have at_ : ∀ {w' : World}, Upd [] [] w2 w' → ∀ (i : Nat) (hi : i < 12), w'.cell? (F.at 1 i) = some (.int .i64 ([bt l 0 / 16, bt l 0 % 16, bt l 1, W16 l 2, W16 l 4, bt l 6 / 128, bt l 6 / 64 % 2, bt l 6 / 32 % 2, bt l 6 % 32 * 256 + bt l 7, bt l 8, bt l 9, W16 l 10][i]'hi)) := fun u i hi => intAt (hF.old u) i hi
  have nd : ∀ (i : Nat) {X : Prop}, i < 12 → X → Need (decide ((i : Int) < (F.len : Int)) && F.ptr.isSome) X := fun i X hi x => needC (by rw [hFl]; exact_mod_cast hi) hFp x
  refine nd 1 (by omega) ⟨bt l 0 % 16, at_ (Upd.refl _) 1 (by omega), nd 3 (by omega) ⟨W16 l 2, at_ (Upd.refl _) 3 (by omega), ?_⟩⟩
  have bb0 := hb.bt 0
  rw [wr_i64 (x := 4 * (bt l 0 % 16)) (by omega) (by omega), hdN_int hb, totN_int hb]
  intro J hJ
  refine nd 0 (by omega) ⟨bt l 0 / 16, at_ (Upd.refl _) 0 (by omega), ?_⟩
  refine bre' (fun hne w3 u3 => ke _ _ (v2.step0 u3 fr1) (by rw [if_pos hne]) (by decide)) (fun h4 => ?_)
  rw [if_neg (by omega)] at ke
  refine brd (fun hx w3 u3 => ke _ _ (v2.step0 u3 fr1) (by rw [if_pos (by omega)]) (by decide)) (fun hh1 => ?_)
  refine brd (fun hx w3 u3 => ke _ _ (v2.step0 u3 fr1) (by rw [if_pos (by omega)]) (by decide)) (fun hh2 => ?_)
  rw [if_neg (by omega)] at ke
  refine brd (fun hx w3 u3 => ke _ _ (v2.step0 u3 fr1) (by rw [if_pos (by omega)]) (by decide)) (fun hh3 => ?_)
  refine brd (fun hx w3 u3 => ke _ _ (v2.step0 u3 fr1) (by rw [if_pos (by omega)]) (by decide)) (fun hh4 => ?_)
  rw [if_neg (by omega)] at ke
  refine need (by simp; omega) ?_
  intro b3 w3 u3 hr3
  rw [Int.toNat_natCast] at hr3
  have h3 := (h.old v2).old u3
  have hsub := h3.subB (lo := 0) (hi := hdN l) (mx := b.cap) (by omega) (by omega) (by omega)
  rw [List.drop_zero] at hsub
  have hP := rowP (n := 1) (cap := 1) hr3 (ss := [b.sub 1 0 (hdN l) b.cap]) rfl rfl (ls := [l.take (hdN l)]) ⟨hsub, trivial⟩
  have v3 := v2.then u3
  refine c44 hP (by simpa using hb.take (hdN l)) (by simp) (by simp; omega) ⟨_, rfl, kp (Upd.refl _), ?_⟩
  rw [flat1]
  refine brn (fun hx w4 u4 => ke _ _ (v3.step0 u4 fr1) (by rw [if_pos (by simpa using hx)]) (by decide)) (fun hs => ⟨rfl, hJ _ _ _ _ _ _ _ _ _ _ _ _ _ _ ?_⟩)
  clear hJ
  rw [if_neg (by simpa using hs)] at ke
  rw [Int.toNat_natCast]
  refine need (by simp; omega) ?_
  have hob : SeesB w3 (b.sub 1 20 (hdN l) (hdN l)) (obL l) := h3.subB (lo := 20) (hi := hdN l) (mx := hdN l) (by omega) (by omega) (Nat.le_refl _)
  have hobb := obL_byt hb
  have w23 : Upd [] [] w2 w3 := u3.forget
  -- behind the options
  have fin : ∀ (ps : List (Nat × Nat)) (s : Sl) (w4 : World), optsP ok4 (obL l) = some ps → Upd [] [] w3 w4 → Sees cOpt w4 s (ps.map (osAt (b.sub 1 20 (hdN l) (hdN l)) (obL l))) → Own w3.heap.size 2 w4 s → ∀ (J1 : Int → World → Prop),
      (∀ (e : Int) (w5 : World), (e = if frag (mfOf l) (offOf l) ((totN l : Int) - hdN l) then 66 else 0) → Upd [] [] w4 w5 → J1 e w5) → True := fun _ _ _ _ _ _ _ _ _ => trivial
  clear fin
  refine c49 hob hobb (by simp [Sl.sub]) (by simp [obL]; omega) (fun w4 u4 hn => ⟨_, _, rfl, kp u4, ?_⟩) (fun ps s w4 hps u4 hs4 ho4 => ⟨_, _, rfl, kp u4, ?_⟩)
  · intro J1 hJ1
    refine brf (by simp) ⟨rfl, hJ1 _ _ (brt (by simp) fun w5 u5 => ?_)⟩
    exact ke _ _ ((v3.then u4).step0 u5 fr1) (by rw [if_pos hn]) (by decide)
  have hpn : ¬ optsP ok4 (obL l) = none := by rw [hps]; simp
  rw [if_neg hpn] at ke
  have v4 := v3.then u4
  have y3 := v3.size
  have w24 : Upd [] [] w2 w4 := w23.then u4
  intro J1 hJ1
  have bb6 := hb.bt 6
  have bb7 := hb.bt 7
  have tr := W16_r hb 2
  have tot : totN l ≤ 65535 := by unfold totN; omega
  refine brt (by simp) (nd 7 (by omega) ⟨bt l 6 / 32 % 2, at_ w24 7 (by omega), nd 8 (by omega) ⟨bt l 6 % 32 * 256 + bt l 7, at_ w24 8 (by omega), fun w5 u5 => ?_⟩⟩)
  have emf : (bt l 6 / 32 % 2 == 1) = mfOf l := rfl
  have eoff : wr .i64 (8 * (bt l 6 % 32 * 256 + bt l 7)) = offOf l := by rw [wr_i64 (by omega) (by omega)]; rfl
  have hoff : 0 ≤ offOf l ∧ offOf l ≤ 65528 := by unfold offOf; omega
  refine c60 ⟨_, rfl, kp (Upd.refl _), u5, ?_⟩
  rw [emf, eoff, wr_i64 (x := (totN l : Int) - hdN l) (by omega) (by omega)]
  refine c59 (by omega) (by omega) (by omega) ⟨_, rfl, kp (Upd.refl _), ?_⟩
  (repeat refine And.intro rfl ?_)
  refine hJ1 _ _ ?_
  clear hJ1
  have v5 := v4.then u5
  have w25 : Upd [] [] w2 w5 := w24.then u5
  by_cases hf : frag (mfOf l) (offOf l) ((totN l : Int) - hdN l)
  · rw [if_pos hf] at ke ⊢
    exact brt (by simp) fun w6 u6 => ke _ _ (v5.step0 u6 fr1) rfl (by decide)
  rw [if_neg hf]
  have hok : ipErr l = 0 := ipErr_mk (by omega) (by omega) (by omega) (by omega) (by omega) (by omega) (by omega) (by simpa using hs) hpn hf
  have eps : psOf l = ps := by unfold psOf; rw [hps]; rfl
  refine brf (by simp) (nd 2 (by omega) ⟨bt l 1, at_ w25 2 (by omega), nd 4 (by omega) ⟨W16 l 4, at_ w25 4 (by omega), nd 6 (by omega) ⟨bt l 6 / 64 % 2, at_ w25 6 (by omega), nd 7 (by omega) ⟨bt l 6 / 32 % 2, at_ w25 7 (by omega), nd 8 (by omega) ⟨bt l 6 % 32 * 256 + bt l 7, at_ w25 8 (by omega), nd 9 (by omega) ⟨bt l 8, at_ w25 9 (by omega), nd 10 (by omega) ⟨bt l 9, at_ w25 10 (by omega), ?_⟩⟩⟩⟩⟩⟩⟩)
  have h5 := h.old v5
  have sub4 : ∀ (w' : World) (o : Nat), o + 4 ≤ l.length → SeesB w' b l → SeesB w' (b.sub 1 o (o + 4) b.cap) ((l.take (o + 4)).drop o) := fun w' o ho h' => h'.subB (by omega) ho (by omega)
  have sub4l : ∀ o : Nat, o + 4 ≤ l.length → 4 ≤ ((l.take (o + 4)).drop o).length := fun o ho => by simp; omega
  have adr : ∀ (o : Nat) (f : Nat → Int), (∀ i, i < 16 → f i = adrAt ((l.take (o + 4)).drop o) 0 i) → ∀ i, i < 16 → f i = adrAt l o i := fun o f hf i hi => by
    rw [hf i hi]
    unfold adrAt
    by_cases hi4 : i < 4
    · rw [if_pos hi4, if_pos hi4, Nat.zero_add, bt_drop, bt_take (by omega)]
    · rw [if_neg hi4, if_neg hi4]
  have S5 := hs4.old u5
  have O5 := (ho4.old u5).mono y3
  have last : ∀ (w6 : World) (f g : Nat → Int) (x : Bool) (y : Bool), Upd [] [] w w6 → Sees cOpt w6 s (ps.map (osAt (b.sub 1 20 (hdN l) (hdN l)) (obL l))) → Own w.heap.size 2 w6 s → x = (bt l 6 / 64 % 2 == 1) → y = (bt l 6 / 32 % 2 == 1) → (∀ i, i < 16 → f i = adrAt l 12 i) → (∀ i, i < 16 → g i = adrAt l 16 i) →
      R (.tuple [.struct [.int .i64 (bt l 1), .int .i64 (W16 l 4), .bool x, .bool y, .int .i64 (wr .i64 (8 * (bt l 6 % 32 * 256 + bt l 7))), .int .i64 (bt l 8), .int .i64 (bt l 9), .struct [.int .i64 4, .arr .u8 16 f], .struct [.int .i64 4, .arr .u8 16 g], .slice s, .slice (b.sub 1 (hdN l) (totN l) (totN l))], .int .i64 0]) w6 := by
    intro w6 f g x y u6 s6 o6 hx hy hf hg
    subst hx hy
    have := k { ipRaw l with sa := f, da := g } s w6 (by
      rw [ipOf_ok hok]
      exact ⟨rfl, rfl, rfl, rfl, rfl, rfl, rfl, rfl, hf, rfl, hg, rfl, rfl⟩) u6 (by
      unfold osOf
      rw [if_pos hok, eps]
      exact s6) o6
    unfold dOf at this
    rw [if_pos hok, hok] at this
    rw [eoff]
    exact this
  -- the two addresses
  have two : ∀ (bs bs1 bs2 : List Nat) (w6 : World) (x y : Bool), Upd [] [] w5 w6 → x = (bt l 6 / 64 % 2 == 1) → y = (bt l 6 / 32 % 2 == 1) → (∀ z ∈ bs2, w.heap.size ≤ z ∧ (z < w3.heap.size ∨ w5.heap.size ≤ z)) →
      Ret Tryd.prog 61 [.slice (b.sub 1 12 16 b.cap)] w6 fun r w7 => ∃ (n : Int) (f : Nat → Int), r = .struct [.int .i64 n, .arr .u8 16 f] ∧ Keeps bs w6 w7 ∧
        Ret Tryd.prog 61 [.slice (b.sub 1 16 20 b.cap)] w7 fun r w8 => ∃ (n1 : Int) (g : Nat → Int), r = .struct [.int .i64 n1, .arr .u8 16 g] ∧ Keeps bs1 w7 w8 ∧
          Need (decide (0 ≤ (totN l : Int)) && decide ((totN l : Int) ≤ (b.cap : Int)) && (decide (0 ≤ (totN l : Int)) && decide ((totN l : Int) ≤ (((totN l : Int).toNat : Nat) : Int))) && (decide (0 ≤ (hdN l : Int)) && decide ((hdN l : Int) ≤ (((totN l : Int).toNat : Nat) : Int))))
            (∀ w9, Upd bs2 [] w8 w9 → R (.tuple [.struct [.int .i64 (bt l 1), .int .i64 (W16 l 4), .bool x, .bool y, .int .i64 (wr .i64 (8 * (bt l 6 % 32 * 256 + bt l 7))), .int .i64 (bt l 8), .int .i64 (bt l 9), .struct [.int .i64 n, .arr .u8 16 f], .struct [.int .i64 n1, .arr .u8 16 g], .slice s, .slice (b.sub 1 (hdN l : Int).toNat (totN l : Int).toNat (totN l : Int).toNat)], .int .i64 0]) w9) := by
    intro bs bs1 bs2 w6 x y u6 hx hy hbs2
    refine c61 (sub4 _ 12 (by omega) (h5.old u6)) (sub4l 12 (by omega)) fun f w7 u7 hf7 => ⟨_, _, rfl, kp u7, ?_⟩
    refine c61 (sub4 _ 16 (by omega) ((h5.old u6).old u7)) (sub4l 16 (by omega)) fun g w8 u8 hg8 => ⟨_, _, rfl, kp u8, ?_⟩
    refine need (by simp; omega) fun w9 u9 => ?_
    rw [Int.toNat_natCast, Int.toNat_natCast]
    have so := (ho4.old u5).blk
    have dis : ∀ z ∈ s.blk, z ∉ bs2 := fun z hz hm => by
      have := so z hz
      have := (hbs2 z hm).2
      omega
    refine last w9 f g x y (((v5.then u6).then u7).then u8 |>.step0 u9 (fun z hz => (hbs2 z hz).1)) ((((S5.old u6).old u7).old u8).upd u9 dis) ((((O5.old u6).old u7).old u8).upd u9 dis) hx hy (adr 12 f hf7) (adr 16 g hg8)
  have y1' := u1.size
  have y2 := u2.size
  have y33 := u3.size
  have y4 := u4.size
  have y5 := u5.size
  have hb1s : w.heap.size ≤ b1 ∧ b1 < w3.heap.size := by omega
  have n16 : ∀ {X : Prop}, X → Need (decide (16 ≤ (b.cap : Int)) && decide ((12 : Int) ≤ 16)) X := fun x => need (by simp; omega) x
  have n20 : ∀ {X : Prop}, X → Need (decide (20 ≤ (b.cap : Int)) && decide ((16 : Int) ≤ 20)) X := fun x => need (by simp; omega) x
  refine ⟨fun w6 u6 => c60 ⟨_, rfl, kp (Upd.refl _), u6, c60 ⟨_, rfl, kp (Upd.refl _), u6, fun b7 => ⟨u6, n16 (n20 fun w7 u7 => ?_)⟩⟩, fun b6 => ⟨u6, fun w7 u7 => c60 ⟨_, rfl, kp (Upd.refl _), u6.then u7, fun w8 u8 => n16 (n20 fun w9 u9 => ?_)⟩⟩⟩,
    fun b5 => ⟨Upd.refl _, fun w6 u6 => c60 ⟨_, rfl, kp (Upd.refl _), u6.forget, c60 ⟨_, rfl, kp (Upd.refl _), u6.forget, fun w7 u7 => n16 (n20 fun w8 u8 => ?_)⟩⟩⟩⟩
  · have n7 := u7.new (b := b7) (by simp)
    have := u6.size
    exact two _ _ _ w7 _ _ (u6.then u7) rfl rfl (by simp; omega)
  · have n6 := u7.new (b := b6) (by simp)
    have := u6.size
    exact two _ _ _ w9 _ _ (((u6.then u7).step0 u8 (by simp; omega)).then u9) rfl rfl (by simp; omega)
  · have n5 := u6.new (b := b5) (by simp)
    exact two _ _ _ w8 _ _ ((u6.step0 u7 (by simp; omega)).then u8) rfl rfl (by simp; omega)
end Go.Vc.S6
end

section
open Go Go.Vc Go.Proofs
set_option linter.unusedVariables false
set_option linter.unusedSimpArgs false
set_option autoImplicit false
namespace Go.Vc.S6

theorem fset_ne {f : Nat → Int} {n i : Nat} {v : Int} (h : i ≠ n) : fset f n v i = f i := by
  have e : Nat.beq i n = false := by rw [← Bool.not_eq_true, Nat.beq_eq]; exact h
  simp [fset, e]
theorem fset_eq {f : Nat → Int} {n : Nat} {v : Int} : fset f n v n = v := by simp [fset]
theorem c85 {b : Sl} {l : List Int} {o : Nat} {w : World} {R : SV → World → Prop} (h : SeesB w b l) (ho : o + 4 ≤ l.length) (hl : l.length < 9223372036854775807) (k : ∀ f w1, Upd [] [] w w1 → (∀ i, i < 16 → f i = adrAt l o i) → R (.struct [.int .i64 4, .arr .u8 16 f]) w1) : Ret Tryd.prog 85 [.slice b, .int .i64 (o : Int)] w R := by
  refine f85_of _ _ _ _ ?_
  unfold vc85
  intro b1 b2
  refine ⟨fun n n1 f w1 => Upd [] [] w w1 ∧ (w.heap.size ≤ b1 ∧ w.heap.size ≤ b2) ∧ n1 = 4 ∧ ∃ t : Nat, n = t ∧ t ≤ 4 ∧ ∀ i, f i = if i < t then bt l ((o + i : Nat) : Int) else 0, fun n _ _ _ => (4 - n).toNat, fun w1 u => ⟨u.forget, ⟨(u.new (by simp)).1, (u.new (by simp)).1⟩, rfl, 0, rfl, by omega, fun i => rfl⟩, ?_⟩
  rintro n n1 f w1 ⟨u, hbb, rfl, t, rfl, ht, hf⟩
  have h1 := h.old u
  refine brd (fun hlt => ?_) (fun hge w2 u2 => ?_)
  · rw [wr_i64 (x := (o : Int) + t) (by omega) (by omega)]
    refine needB h1 (by omega) (by omega) ⟨_, h1.byte (by omega) (by omega), needIx2 (by omega) (by omega) fun w2 u2 => by
      (repeat refine And.intro rfl ?_)
      refine ⟨⟨u.step0 u2 (by simp; omega), hbb, rfl, t + 1, wr_succ (by omega), by omega, fun i => ?_⟩, by rw [wr_succ (q := t) (by omega)]; (try dsimp only); omega⟩
      rw [Int.toNat_natCast]
      by_cases e : i = t
      · subst e
        rw [fset_eq, if_pos (by omega)]
        congr 1
      · rw [fset_ne e, hf i]
        by_cases e2 : i < t
        · rw [if_pos e2, if_pos (by omega)]
        · rw [if_neg e2, if_neg (by omega)]⟩
  · have : t = 4 := by omega
    subst this
    exact k f w2 (u.step0 u2 (by simp; omega)) (fun i _ => hf i)

set_option maxRecDepth 10000 in
theorem c47 {b : Sl} {l : List Int} {w : World} {R : SV → World → Prop} (h : SeesB w b l) (hb : Byt l) (hc : b.len ≤ b.cap) (hl : l.length ≤ 140737488355328)
    (k : ∀ v s os d w1, IpEq v (ipOf l) → Upd [] [] w w1 → Opts w1 s (ipOf l).opts os → Own w.heap.size 2 w1 s → (∀ x ∈ os, Own w.heap.size 1 w1 x.2) → SeesB w1 d (ipOf l).data → Own w.heap.size 1 w1 d → R (.tuple [ipSV v s d, .int .i64 (ipErr l)]) w1) : Ret Tryd.prog 47 [.slice b] w R := by
  refine f47_of _ _ _ ?_
  unfold vc47
  have hlen := h.len
  rw [hlen]
  have ke : ∀ e w1, Upd [] [] w w1 → ipErr l = e → e ≠ 0 → R (.tuple [ipSV ipZ ⟨none, 0, 0⟩ ⟨none, 0, 0⟩, .int .i64 e]) w1 := fun e w1 u he hn => by
    have hn' : ¬ ipErr l = 0 := by omega
    have e0 : ipOf l = ipZ := by unfold ipOf; rw [if_neg hn']
    have := k ipZ ⟨none, 0, 0⟩ [] ⟨none, 0, 0⟩ w1 (by rw [e0]; exact .refl _) u (by rw [e0]; exact Opts.nil _ _ _) (Own.none _ _ _) (by simp) (by rw [e0]; exact Sees.nil _ _ _ _) (Own.none _ _ _)
    rwa [he] at this
  intro b1 b2
  unfold ipErr at ke
  refine brd (fun hgt w1 u => ke _ _ u.forget (by rw [if_pos (by omega)]) (by decide)) (fun hle => ?_)
  rw [if_neg (by omega)] at ke
  refine brd (fun hgt w1 u => ke _ _ u.forget (by rw [if_pos (by omega)]) (by decide)) (fun h20 => ?_)
  rw [if_neg (by omega)] at ke
  have nd : ∀ {w' : World}, SeesB w' b l → ∀ (i : Nat) {X : Prop}, i < 20 → X → Need (decide ((i : Int) < (l.length : Int)) && b.ptr.isSome) X := fun h' i X hi x => needC (by omega) (h'.isSome (by decide) (by omega)) x
  refine nd h 0 (by omega) ⟨bt l 0, byteC h 0 (by omega), fun w1 u1 => ?_⟩
  have hb1 := u1.new (b := b1) (by simp)
  have hb2 := u1.new (b := b2) (by simp)
  have bb0 := hb.bt 0
  have bb6 := hb.bt 6
  have bb7 := hb.bt 7
  have eh : wr .i64 (wr .i64 (Int.tmod (bt l 0) 16) * 4) = (hdN l : Int) := by
    rw [tmod_pos bb0.1, wr_i64 (x := bt l 0 % 16) (by omega) (by omega), wr_i64 (by omega) (by omega), Int.mul_comm]; exact hdN_int hb
  refine c83 (i := 2) (h.old u1) hb (by omega) (by omega) fun w2 u2 => ⟨_, rfl, kp u2, ?_⟩
  rw [totN_int hb]
  have v2 := u1.then u2
  have h2 := h.old v2
  have fr1 : ∀ x ∈ [b1], w.heap.size ≤ x := by simp; omega
  rw [eh]
  intro J hJ
  refine nd h2 0 (by omega) ⟨bt l 0, byteC h2 0 (by omega), ?_⟩
  have e16 : wr .u8 (Int.tdiv (bt l 0) 16) = bt l 0 / 16 := by rw [tdiv_pos bb0.1, wr_u8]; omega
  rw [e16]
  refine bre' (fun hne w3 u3 => ke _ _ (v2.step0 u3 fr1) (by rw [if_pos hne]) (by decide)) (fun h4 => ?_)
  rw [if_neg (by omega)] at ke
  refine brd (fun hx w3 u3 => ke _ _ (v2.step0 u3 fr1) (by rw [if_pos (by omega)]) (by decide)) (fun hh1 => ?_)
  refine brd (fun hx w3 u3 => ke _ _ (v2.step0 u3 fr1) (by rw [if_pos (by omega)]) (by decide)) (fun hh2 => ?_)
  rw [if_neg (by omega)] at ke
  refine brd (fun hx w3 u3 => ke _ _ (v2.step0 u3 fr1) (by rw [if_pos (by omega)]) (by decide)) (fun hh3 => ?_)
  refine brd (fun hx w3 u3 => ke _ _ (v2.step0 u3 fr1) (by rw [if_pos (by omega)]) (by decide)) (fun hh4 => ⟨rfl, rfl, hJ _ _ _ _ _ _ _ _ _ _ _ _ _ _ ?_⟩)
  clear hJ
  rw [if_neg (by omega)] at ke
  refine need (by simp; omega) ?_
  intro b3 w3 u3 hr3
  rw [Int.toNat_natCast] at hr3
  have h3 := h2.old u3
  have hsub := h3.subB (lo := 0) (hi := hdN l) (mx := b.cap) (by omega) (by omega) (by omega)
  rw [List.drop_zero] at hsub
  have hP := rowP (n := 1) (cap := 1) hr3 (ss := [b.sub 1 0 (hdN l) b.cap]) rfl rfl (ls := [l.take (hdN l)]) ⟨hsub, trivial⟩
  have v3 := v2.then u3
  refine c84 hP (by simpa using hb.take (hdN l)) (by simp) (by simp; omega) ⟨_, rfl, kp (Upd.refl _), ?_⟩
  rw [flat1]
  refine brn (fun hx w4 u4 => ke _ _ (v3.step0 u4 fr1) (by rw [if_pos (by simpa using hx)]) (by decide)) (fun hs => ?_)
  rw [if_neg (by simpa using hs)] at ke
  rw [Int.toNat_natCast]
  refine need (by simp; omega) ?_
  have hob : SeesB w3 (b.sub 1 20 (hdN l) b.cap) (obL l) := h3.subB (lo := 20) (hi := hdN l) (mx := b.cap) (by omega) (by omega) (by omega)
  have hobb := obL_byt hb
  refine c50 hob hobb (by simp [Sl.sub]; omega) (by simp [obL]; omega) (fun w4 u4 hn => ⟨_, _, rfl, kp u4, ?_⟩) (fun ps s os w4 hps u4 hs4 ho4 hos4 => ⟨_, _, rfl, kp u4, ?_⟩)
  · exact brt (by simp) fun w5 u5 => ke _ _ ((v3.then u4).step0 u5 fr1) (by rw [if_pos hn]) (by decide)
  have hpn : ¬ optsP ok4 (obL l) = none := by rw [hps]; simp
  rw [if_neg hpn] at ke
  have v4 := v3.then u4
  have h4' := h.old v4
  have y3 := v3.size
  refine brf (by simp) ?_
  refine c83 (i := 6) h4' hb (by omega) (by omega) fun w5 u5 => ⟨_, rfl, kp u5, ?_⟩
  have v5 := v4.then u5
  have h5 := h.old v5
  have w66 : W16 l 6 = bt l 6 * 256 + bt l 7 := rfl
  have emf : (Int.tmod (wr .i64 (Int.tdiv (W16 l 6) 8192)) 2 == 1) = mfOf l := by
    rw [tdiv_pos (by omega), wr_i64 (by omega) (by omega), tmod_pos (by omega)]
    unfold mfOf; congr 1; omega
  have edf : (Int.tmod (wr .i64 (Int.tdiv (W16 l 6) 16384)) 2 == 1) = dfOf l := by
    rw [tdiv_pos (by omega), wr_i64 (by omega) (by omega), tmod_pos (by omega)]
    unfold dfOf; congr 1; omega
  have eoff : wr .i64 (Int.tmod (W16 l 6) 8192 * 8) = offOf l := by
    rw [tmod_pos (by omega), wr_i64 (by omega) (by omega)]
    unfold offOf; omega
  have hoff : 0 ≤ offOf l ∧ offOf l ≤ 65528 := by unfold offOf; omega
  have tr := W16_r hb 2
  have tot : totN l ≤ 65535 := by unfold totN; omega
  have b1' := hb.bt 1
  have b8' := hb.bt 8
  have b9' := hb.bt 9
  have y1 := u1.size
  have y2 := u2.size
  have y33 := u3.size
  have y4 := u4.size
  have y5 := u5.size
  have eps : psOf l = ps := by unfold psOf; rw [hps]; rfl
  refine nd h5 1 (by omega) ⟨bt l 1, byteC h5 1 (by omega), nd h5 8 (by omega) ⟨bt l 8, byteC h5 8 (by omega), nd h5 9 (by omega) ⟨bt l 9, byteC h5 9 (by omega), ?_⟩⟩⟩
  rw [emf, edf, eoff, wr_i64 (x := bt l 1) (by omega) (by omega), wr_i64 (x := bt l 8) (by omega) (by omega), wr_i64 (x := bt l 9) (by omega) (by omega), Int.toNat_natCast]
  refine need (by simp; omega) ?_
  have fin : ∀ (bs : List Nat) (w8 : World) (d : Sl) (f g : Nat → Int), Upd [] [] w5 w8 → SeesB w8 d ((l.take (totN l)).drop (hdN l)) → Own w5.heap.size 1 w8 d → (∀ i, i < 16 → f i = adrAt l 12 i) → (∀ i, i < 16 → g i = adrAt l 16 i) →
      Ret Tryd.prog 74 [.bool (mfOf l), .int .i64 (offOf l), .int .i64 (d.len : Int)] w8 fun r w9 => ∃ b : Bool, r = .bool b ∧ Keeps bs w8 w9 ∧
        Br b (∀ w1, Upd [b1] [] w9 w1 → R (.tuple [ipSV ipZ ⟨none, 0, 0⟩ ⟨none, 0, 0⟩, .int .i64 66]) w1)
          (∀ w1, Upd [b1] [] w9 w1 → R (.tuple [.struct [.int .i64 (bt l 1), .int .i64 (W16 l 4), .bool (dfOf l), .bool (mfOf l), .int .i64 (offOf l), .int .i64 (bt l 8), .int .i64 (bt l 9), .struct [.int .i64 4, .arr .u8 16 f], .struct [.int .i64 4, .arr .u8 16 g], .slice s, .slice d], .int .i64 0]) w1) := by
    intro bs w8 d f g u8 hd od hf hg
    have hdl := hd.len
    have hdl2 : ((l.take (totN l)).drop (hdN l)).length = totN l - hdN l := by simp; omega
    refine c74 (by omega) (by omega) (by omega) ⟨_, rfl, kp (Upd.refl _), ?_⟩
    rw [show (d.len : Int) = (totN l : Int) - hdN l by omega]
    refine brd (fun hx w9 u9 => ke _ _ ((v5.then u8).step0 u9 fr1) (by rw [if_pos hx]) (by decide)) (fun hx w9 u9 => ?_)
    have hok : ipErr l = 0 := ipErr_mk (by omega) (by omega) (by omega) (by omega) (by omega) (by omega) (by omega) (by simpa using hs) hpn hx
    have q1 : ∀ x ∈ s.blk, x ∉ [b1] := fun x hx hm => by have := (ho4.blk x hx).1; simp at hm; omega
    have q2 : ∀ y ∈ os, ∀ x ∈ y.2.blk, x ∉ [b1] := fun y hy x hx hm => by have := ((hos4 y hy).blk x hx).1; simp at hm; omega
    have q3 : ∀ x ∈ d.blk, x ∉ [b1] := fun x hx hm => by have := (od.blk x hx).1; simp at hm; omega
    have := k { ipRaw l with sa := f, da := g } s os d w9 (by
      rw [ipOf_ok hok]
      exact ⟨rfl, rfl, rfl, rfl, rfl, rfl, rfl, rfl, hf, rfl, hg, rfl, rfl⟩) ((v5.then u8).step0 u9 fr1) (by
      rw [ipOf_ok hok]
      show Opts w9 s ((psOf l).map (optAt (obL l))) os
      rw [eps]
      exact ((hs4.old u5).old u8).upd u9 q1 q2) ((((ho4.old u5).old u8).upd u9 q1).mono y3) (fun x hx => ((((hos4 x hx).old u5).old u8).upd u9 (q2 x hx)).mono y3) (by
      rw [ipOf_ok hok]; exact hd.upd u9 q3) ((od.upd u9 q3).mono (by omega))
    rw [hok] at this
    exact this
  have cut : ∀ {w' : World}, SeesB w' b l → SeesB w' (b.sub 1 (hdN l) (totN l) b.cap) ((l.take (totN l)).drop (hdN l)) := fun h' => h'.subB (by omega) (by omega) (by omega)
  have cutl : ((l.take (totN l)).drop (hdN l)).length ≤ 140737488355328 := by simp; omega
  have s83 : ∀ {w' : World} {R : SV → World → Prop}, Upd [] [] w5 w' → (∀ w1, Upd [] [] w5 w1 → Upd [] [] w' w1 → R (.int .i64 (W16 l 4)) w1) → Ret Tryd.prog 83 [.slice b, .int .i64 4] w' R := fun u k => c83 (i := 4) (h5.old u) hb (by omega) (by omega) fun w1 u1 => k w1 (u.then u1) u1
  have s12 : ∀ {w' : World} {R : SV → World → Prop}, Upd [] [] w5 w' → (∀ f w1, Upd [] [] w5 w1 → Upd [] [] w' w1 → (∀ i, i < 16 → f i = adrAt l 12 i) → R (.struct [.int .i64 4, .arr .u8 16 f]) w1) → Ret Tryd.prog 85 [.slice b, .int .i64 12] w' R := fun u k => c85 (o := 12) (h5.old u) (by omega) (by omega) fun f w1 u1 hf => k f w1 (u.then u1) u1 hf
  have s16 : ∀ {w' : World} {R : SV → World → Prop}, Upd [] [] w5 w' → (∀ f w1, Upd [] [] w5 w1 → Upd [] [] w' w1 → (∀ i, i < 16 → f i = adrAt l 16 i) → R (.struct [.int .i64 4, .arr .u8 16 f]) w1) → Ret Tryd.prog 85 [.slice b, .int .i64 16] w' R := fun u k => c85 (o := 16) (h5.old u) (by omega) (by omega) fun f w1 u1 hf => k f w1 (u.then u1) u1 hf
  have s23 : ∀ {w' : World} {R : SV → World → Prop}, Upd [] [] w5 w' → (∀ d w1, Upd [] [] w5 w1 → Upd [] [] w' w1 → SeesB w1 d ((l.take (totN l)).drop (hdN l)) → Own w'.heap.size 1 w1 d → R (.slice d) w1) → Ret Tryd.prog 23 [.slice (b.sub 1 (hdN l) (totN l) b.cap)] w' R := fun u k => c23 (cut (h5.old u)) cutl fun d w1 u1 hd od => k d w1 (u.then u1) u1 hd od
  have two : ∀ (b7 N : Nat) (w8 w9 : World) (d : Sl), w5.heap.size ≤ b7 → b7 < N → w5.heap.size ≤ N → Upd [] [] w5 w8 → SeesB w8 d ((l.take (totN l)).drop (hdN l)) → Own N 1 w8 d → Upd [b7] [] w8 w9 →
      Upd [] [] w5 w9 ∧ SeesB w9 d ((l.take (totN l)).drop (hdN l)) ∧ Own w5.heap.size 1 w9 d := by
    intro b7 N w8 w9 d h1 h2 h3 u8 hd od u9
    have q : ∀ x ∈ d.blk, x ∉ [b7] := fun x hx hm => by have := (od.blk x hx).1; simp at hm; omega
    exact ⟨u8.step0 u9 (by simp; omega), hd.upd u9 q, (od.upd u9 q).mono h3⟩
  refine ⟨fun w6 u6 => s83 u6 fun w7 u7 t7 => ⟨_, rfl, kp t7, u7, ⟨s12 u7 fun f w8 u8 t8 hf => ⟨_, _, rfl, kp t8, u8, ⟨s16 u8 fun g w9 u9 t9 hg => ⟨_, _, rfl, kp t9, u9, ⟨s23 u9 fun d w10 u10 t10 hd od => ⟨_, rfl, kp t10, u10, fun b7 => ⟨u10, fun w11 u11 => ?_⟩⟩, fun b7 => ⟨u9, fun w10 u10 => ?_⟩⟩⟩, fun b7 => ⟨u8, fun w9 u9 => ?_⟩⟩⟩, fun b7 => ⟨u7, fun w8 u8 => ?_⟩⟩⟩, fun b7 => ⟨Upd.refl _, fun w6 u6 => ?_⟩⟩
  · exact fin _ w11 d f g (u10.then u11) (hd.old u11) ((od.old u11).mono u9.size) hf hg
  · have n7 := u10.new (b := b7) (by simp)
    have := u9.size
    refine s23 (u9.then u10) fun d w11 u11 t11 hd od => ⟨_, rfl, kp t11, u11, fun w12 u12 => ?_⟩
    obtain ⟨a1, a2, a3⟩ := two b7 _ _ _ d (by omega) n7.2 (by omega) u11 hd od u12
    exact fin _ w12 d f g a1 a2 a3 hf hg
  · have n7 := u9.new (b := b7) (by simp)
    have := u8.size
    refine s16 (u8.then u9) fun g w10 u10 t10 hg => ⟨_, _, rfl, kp t10, u10, s23 u10 fun d w11 u11 t11 hd od => ⟨_, rfl, kp t11, u11, fun w12 u12 => ?_⟩⟩
    have := t10.size
    obtain ⟨a1, a2, a3⟩ := two b7 _ _ _ d (by omega) (by omega) (by omega) u11 hd od u12
    exact fin _ w12 d f g a1 a2 a3 hf hg
  · have n7 := u8.new (b := b7) (by simp)
    have := u7.size
    refine s12 (u7.then u8) fun f w9 u9 t9 hf => ⟨_, _, rfl, kp t9, u9, s16 u9 fun g w10 u10 t10 hg => ⟨_, _, rfl, kp t10, u10, s23 u10 fun d w11 u11 t11 hd od => ⟨_, rfl, kp t11, u11, fun w12 u12 => ?_⟩⟩⟩
    have := t9.size
    have := t10.size
    obtain ⟨a1, a2, a3⟩ := two b7 _ _ _ d (by omega) (by omega) (by omega) u11 hd od u12
    exact fin _ w12 d f g a1 a2 a3 hf hg
  · have n7 := u6.new (b := b7) (by simp)
    refine s83 u6.forget fun w8 u8 t8 => ⟨_, rfl, kp t8, u8, s12 u8 fun f w9 u9 t9 hf => ⟨_, _, rfl, kp t9, u9, s16 u9 fun g w10 u10 t10 hg => ⟨_, _, rfl, kp t10, u10, s23 u10 fun d w11 u11 t11 hd od => ⟨_, rfl, kp t11, u11, fun w12 u12 => ?_⟩⟩⟩⟩
    have := t8.size
    have := t9.size
    have := t10.size
    obtain ⟨a1, a2, a3⟩ := two b7 _ _ _ d (by omega) (by omega) (by omega) u11 hd od u12
    exact fin _ w12 d f g a1 a2 a3 hf hg
end Go.Vc.S6
end
