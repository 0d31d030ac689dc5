import Derived.Test.YtlohkdkgpajkaaaDoorS6Lay
open Go Go.Vc Go.Proofs
set_option linter.unusedVariables false
set_option linter.unusedSimpArgs false
set_option autoImplicit false
namespace Go.Vc.S6
section
variable {N br : Nat} {w w1 : World} {R : SV → World → Prop}
theorem zerosO (k : Nat) : zerosOf (.struct false [.int .i64, .slice 5]) k = cOpt.cells (List.replicate k (0, ⟨none, 0, 0⟩)) := by
  unfold zerosOf
  induction k with
  | zero => rfl
  | succ m ih => rw [List.replicate_succ, List.flatten_cons, ih, List.replicate_succ, cOpt.cells_cons]; rfl
set_option maxRecDepth 20000 in
/-- options laid -/
theorem c32 {hd : List Nat} {s : Sl} {l : List Opt} {os : List (Int × Sl)} (hR : RmAt N w br hd) (h : Opts w s l os) (hB : ∀ x, (x ∈ s.blk ∨ ∃ y ∈ os, x ∈ y.2.blk) → x < w.heap.size ∧ x ∉ hd) (hl : l.length ≤ 4398046511000) (hol : ∀ o ∈ l, o.data.length ≤ 140737488351232)
    (k : ∀ r os' hd' w1, Upd hd [] w w1 → Laid N w1 br l hd' r os' → (∀ x ∈ hd', x ∈ hd ∨ w.heap.size ≤ x) → R (.slice r) w1) : Ret Tryd.prog 32 [.ptr (some ⟨br, 0, none⟩), .slice s] w R := by
  obtain ⟨L, D, n, lc, ds, hM, rfl⟩ := hR
  refine f32_of _ _ _ _ ?_
  unfold vc32
  dsimp only [deref]
  have hsl := h.slen
  intro J hJ
  have h0 : ∀ {w' : World} {L' D' : Sl} {n' : Int} {lc' : List (Int × Sl)} {ds' : List (Nat × Sl)}, Rm N w' br L' D' n' lc' ds' → w'.cell? ⟨br, 0, none⟩ = some L'.val := fun h => by have := h.box.sl 0 _ rfl; rwa [add_zero] at this
  have main : ∀ L1 lc1 w1, Rm N w1 br L1 D n lc1 ds → 2 * l.length + 9 ≤ lc1.length → Upd (rmB br L D ds) [] w w1 → (∀ x ∈ rmB br L1 D ds, x ∈ rmB br L D ds ∨ w.heap.size ≤ x) → J w1 := by
    intro L1 lc1 w1 h1 hbig u1 nw
    refine hJ _ ?_
    clear hJ
    have hl1 := h1.llen
    refine ⟨fun i w' => ∃ (t : Nat) (lc' : List (Int × Sl)), i = t ∧ t ≤ lc1.length ∧ Rm N w' br L1 D n lc' ds ∧ lc'.length = lc1.length ∧ Upd L1.blk [] w1 w' ∧ Marks lc' 0 t, fun i _ => (lc1.length - i).toNat, ⟨0, lc1, rfl, by omega, h1, rfl, (Upd.refl w1).wide (by simp), fun j _ _ hj => by omega⟩, ?_⟩
    rintro i w2 ⟨t, lc2, rfl, ht, h2, hl2, u2, m2⟩
    have hL := h2.lrow.len
    refine ⟨L1, h0 h2, brd (fun hlt => ⟨L1, h0 h2, needIx (by omega) (by omega) (h2.lrow.isSome (by decide) (by omega)) ?_⟩) (fun hge => ?_)⟩
    · rw [Int.toNat_natCast]
      refine h2.setL (i := t) (y := rmk t) (by omega) rfl fun w3 h3 u3 => ⟨⟨t + 1, _, wr_succ (by omega), by omega, h3, by simp [hl2], u2.step u3 (fun x hx => .inr hx), ?_⟩, by rw [wr_succ (by omega)]; (try dsimp only); omega⟩
      intro j hj _ hjt
      rw [List.getElem_set]
      split
      · rename_i e; rw [e]
      · exact m2 j (by simpa using hj) (by omega) (by omega)
    have htl : t = lc1.length := by omega
    subst htl
    have U2 : Upd (rmB br L D ds) [] w w2 := u1.step u2 (fun x hx => (nw x (rmB_mem.2 (.inr (.inl hx)))).symm)
    clear hge ht
    refine ⟨fun i w' => ∃ (q : Nat) (lc' : List (Int × Sl)) (D' : Sl) (ds' : List (Nat × Sl)), i = q ∧ q ≤ l.length ∧ q ≤ ds'.length ∧ Rm N w' br L1 D' n lc' ds' ∧ lc'.length = lc1.length ∧ Upd (rmB br L D ds) [] w w' ∧ (∀ x ∈ rmB br L1 D' ds', x ∈ rmB br L D ds ∨ w.heap.size ≤ x) ∧ Marks lc' q lc'.length ∧ LentAt N w' l lc' ds' q, fun i _ => (l.length - i).toNat, ⟨0, lc2, D, ds, rfl, by omega, by omega, h2, hl2, U2, nw, by rw [hl2]; exact m2, fun j _ _ _ hj => by omega⟩, ?_⟩
    rintro i w3 ⟨q, lc3, D3, ds3, rfl, hq, hqd, h3, hl3, U3, nw3, m3, le3⟩
    have z3 := U3.size
    have hdl3 := h3.dlen
    refine brd (fun hlt => ?_) (fun hge => ?_)
    · have hq2 : q < l.length := by omega
      intro J1 hJ1 J2 hJ2
      have step : ∀ D4 ds4 w4, Rm N w4 br L1 D4 n lc3 ds4 → q < ds4.length → Upd (rmB br L D ds) [] w w4 → (∀ x ∈ rmB br L1 D4 ds4, x ∈ rmB br L D ds ∨ w.heap.size ≤ x) → LentAt N w4 l lc3 ds4 q → J2 w4 := by
        intro D4 ds4 w4 h4 hqd4 U4 nw4 le4
        refine hJ2 _ ?_
        clear hJ2
        have z4 := U4.size
        have hS : Opts w4 s l os := h.upd U4 (fun x hx => (hB x (.inl hx)).2) (fun y hy x hx => (hB x (.inr ⟨y, hy, hx⟩)).2)
        obtain ⟨g1, g2, g3, g4⟩ := hS.get q hq2
        have hL4 := h4.lrow.len
        have cD : w4.cell? ((⟨br, 0, none⟩ : Addr).add 2) = some D4.val := h4.box.sl 2 D4 rfl
        have hD4 := h4.drow.len
        rw [List.length_map] at hD4
        have pd : w4.cell? (D4.at 1 q) = some (.pointer (some ⟨ds4[q].1, 0, none⟩)) := by
          have := h4.drow.elem (i := q) (by simpa using hqd4) 0 (by simp [cPt])
          rw [add_zero] at this
          simpa [cPt] using this
        have pD := h4.drow.isSome (by decide) (by rw [List.length_map]; omega)
        have pL := h4.lrow.isSome (by decide) (by omega)
        have mem := List.getElem_mem hqd4
        have inD : ∀ x ∈ dqB ds4[q], x ∈ rmB br L1 D4 ds4 := fun x hx => rmB_mem.2 (.inr (.inr (.inr ⟨_, mem, hx⟩)))
        have out : ∀ x, (x ∈ s.blk ∨ ∃ y ∈ os, x ∈ y.2.blk) → x ∉ rmB br L1 D4 ds4 := fun x hx hm => by
          rcases nw4 x hm with r | r
          · exact (hB x hx).2 r
          · have := (hB x hx).1; omega
        have lt4 := h4.lt
        rw [Int.toNat_natCast]
        refine ⟨br :: (s.blk ++ D4.blk), fun x hx => ?_, by simp, L1, h0 h4, needIx (by omega) (by omega) g4 ⟨List.mem_cons_of_mem _ (List.mem_append_left _ (at_blk g4 _ _)), _, g1, by simp [add_block], D4, cD, needIx (by omega) (by omega) pD ⟨by simp [at_blk pD], _, pd, needIx (by omega) (by omega) g4 ⟨List.mem_cons_of_mem _ (List.mem_append_left _ (at_blk1 g4 _ _ _)), _, g2, fun w5 u5 => ?_⟩⟩⟩⟩
        · have hx : x ∈ br :: (s.blk ++ D4.blk) := hx
          have : x < w4.heap.size := by
            rcases List.mem_cons.1 hx with e | e
            · exact (lt4 x (rmB_mem.2 (.inl e))).2
            · rcases List.mem_append.1 e with e | e
              · have := (hB x (.inl e)).1; omega
              · exact (lt4 x (rmB_mem.2 (.inr (.inr (.inl e))))).2
          exact this
        have z5 := u5.size
        refine (h4.old u5).lend hqd4 (g3.old u5) (by have := hol _ (List.getElem_mem hq2); omega) (fun x hx => ?_) fun room' K w6 u6 h6 hd6 hK hn6 => ⟨_, rfl, fun x hx => ?_, needIx (by omega) (by omega) pL ?_⟩
        · have hos : x ∈ s.blk ∨ ∃ y ∈ os, x ∈ y.2.blk := .inr ⟨_, List.getElem_mem (by rw [h.len]; exact hq2), hx⟩
          exact ⟨by have := (hB x hos).1; omega, out x hos⟩
        · have u46 : Upd (dqB ds4[q]) [] w4 w6 := (u5.wide (m' := dqB ds4[q]) (by simp)).step u6 (fun x hx => .inr hx)
          have o := h4.offd _ mem
          refine u46.keep x ?_ (fun hm => ?_)
          · rcases List.mem_cons.1 hx with e | e
            · exact (lt4 x (rmB_mem.2 (.inl e))).2
            · rcases List.mem_append.1 e with e | e
              · have := (hB x (.inl e)).1; omega
              · exact (lt4 x (rmB_mem.2 (.inr (.inr (.inl e))))).2
          · rcases List.mem_cons.1 hx with e | e
            · exact (o x hm).1 e
            · rcases List.mem_append.1 e with e | e
              · exact out x (.inl e) (inD x hm)
              · exact (o x hm).2.2 e
        have hg3 := g3.len
        have el : Int.toNat (((os[q]'(by rw [h.len]; exact hq2)).2.len : Nat) : Int) = l[q].data.length := by rw [Int.toNat_natCast]; exact hg3
        rw [el]
        refine h6.setL (i := q) (y := (l[q].kind, room'.sub 1 0 l[q].data.length room'.cap)) (by omega) rfl fun w7 h7 u7 => hJ1 _ ?_
        have z6 := u6.size
        have o6 := h6.offd
        refine ⟨⟨q + 1, _, D4, _, wr_succ (by omega), by omega, by rw [List.length_set]; omega, h7, by rw [List.length_set]; exact hl3, ((U4.step u5 (by simp)).step u6 (fun x hx => (nw4 x (inD x hx)).symm)).step u7 (fun x hx => (nw4 x (rmB_mem.2 (.inr (.inl hx)))).symm), fun x hx => ?_, fun j hj h1j h2j => ?_, fun j j1 j2 j3 j4 => ?_⟩, by rw [wr_succ (by omega)]; (try dsimp only); omega⟩
        · rcases rmB_mem.1 hx with e | e | e | ⟨d, hd, e⟩
          · exact nw4 x (rmB_mem.2 (.inl e))
          · exact nw4 x (rmB_mem.2 (.inr (.inl e)))
          · exact nw4 x (rmB_mem.2 (.inr (.inr (.inl e))))
          · rcases List.mem_or_eq_of_mem_set hd with hd | hd
            · exact nw4 x (rmB_mem.2 (.inr (.inr (.inr ⟨d, hd, e⟩))))
            · subst hd
              rcases List.mem_cons.1 e with e | e
              · exact nw4 x (inD x (by simp [dqB, e]))
              · rcases hn6 x e with e | e
                · exact .inr (by omega)
                · exact nw4 x (inD x (by simp [dqB, e]))
        · rw [List.length_set] at hj h2j
          rw [List.getElem_set_ne (by omega)]
          exact m3 j hj (by omega) h2j
        · rw [List.length_set] at j2 j3
          by_cases e : q = j
          · subst e
            simp only [List.getElem_set_self]
            have o := o6 _ (List.mem_iff_getElem.2 ⟨q, by rw [List.length_set]; exact hqd4, by simp⟩ : (ds4[q].1, room') ∈ ds4.set q (ds4[q].1, room'))
            exact ⟨trivial, K, hd6.upd u7 (fun hm => (o _ (by simp [dqB])).2.1 hm) (fun x hx hm => (o x (by simp [dqB, hx])).2.1 hm), hK⟩
          · simp only [List.getElem_set_ne e]
            obtain ⟨a1, K', a2, a3⟩ := le4 j j1 j2 j3 (by omega)
            have dj := h4.dis j q j2 hqd4 (fun e' => e e'.symm)
            have oj := h4.offd _ (List.getElem_mem j2)
            exact ⟨a1, K', ((a2.old u5).upd u6 (dj _ (by simp [dqB])) (fun x hx => dj x (by simp [dqB, hx]))).upd u7 (fun hm => (oj _ (by simp [dqB])).2.1 hm) (fun x hx hm => (oj x (by simp [dqB, hx])).2.1 hm), a3⟩
      clear hJ2
      have cD : w3.cell? ((⟨br, 0, none⟩ : Addr).add 2) = some D3.val := h3.box.sl 2 D3 rfl
      have hD3 := h3.drow.len
      rw [List.length_map] at hD3
      refine ⟨D3, cD, brd (fun hle => ⟨D3, cD, ?_⟩) (fun hgt => step D3 ds3 w3 h3 (by omega) U3 nw3 le3)⟩
      refine h3.more (by omega) fun D4 b w4 u4 h4 hn4 hb4 => ?_
      have o3 := h3.offd
      refine step D4 _ w4 h4 (by simp; omega) (U3.step u4 (fun x hx => ?_)) (fun x hx => ?_) (fun j j1 j2 j3 j4 => ?_)
      · refine (nw3 x ?_).symm
        rcases List.mem_cons.1 hx with e | e
        · exact rmB_mem.2 (.inl e)
        · exact rmB_mem.2 (.inr (.inr (.inl e)))
      · rcases rmB_mem.1 hx with e | e | e | ⟨d, hd, e⟩
        · exact nw3 x (rmB_mem.2 (.inl e))
        · exact nw3 x (rmB_mem.2 (.inr (.inl e)))
        · rcases hn4 x e with e | e
          · exact nw3 x (rmB_mem.2 (.inr (.inr (.inl e))))
          · exact .inr (by omega)
        · rcases List.mem_append.1 hd with hd | hd
          · exact nw3 x (rmB_mem.2 (.inr (.inr (.inr ⟨d, hd, e⟩))))
          · rw [List.mem_singleton] at hd
            subst hd
            simp [dqB, Sl.blk] at e
            exact .inr (by omega)
      · have j2' : j < ds3.length := by omega
        rw [List.getElem_append_left j2']
        obtain ⟨a1, K', a2, a3⟩ := le3 j j1 j2' j3 j4
        have oj := o3 _ (List.getElem_mem j2')
        refine ⟨a1, K', a2.upd u4 (fun hm => ?_) (fun x hx hm => ?_), a3⟩
        · rcases List.mem_cons.1 hm with e | e
          · exact (oj _ (by simp [dqB])).1 e
          · exact (oj _ (by simp [dqB])).2.2 e
        · rcases List.mem_cons.1 hm with e | e
          · exact (oj x (by simp [dqB, hx])).1 e
          · exact (oj x (by simp [dqB, hx])).2.2 e
    · have hql : q = l.length := by omega
      subst hql
      have b3 := h3.base
      refine h3.box.set (y := .int (s.len : Int)) 1 (show 1 < 3 by decide) rfl (by simp) fun w4 hx4 u4 => ?_
      have nb : ∀ x, x ≠ br → x ∉ [br] := fun x hx hm => hx (by simpa using hm)
      have o3 := h3.offd
      have h4 : Rm N w4 br L1 D3 (l.length : Int) lc3 ds3 := ⟨by rw [hsl] at hx4; exact hx4, h3.le, h3.lrow.upd u4 (fun x hx => nb x (fun e => b3.1 (e ▸ hx))), h3.lown.upd u4 (fun x hx => nb x (fun e => b3.1 (e ▸ hx))), h3.llen, h3.drow.upd u4 (fun x hx => nb x (fun e => b3.2.1 (e ▸ hx))), h3.down.upd u4 (fun x hx => nb x (fun e => b3.2.1 (e ▸ hx))), h3.dlen, fun d hd => (h3.desk d hd).upd u4 (fun x hx => nb x (o3 d hd x hx).1), h3.dis, h3.base, h3.offd⟩
      have hL4 := h4.lrow.len
      have hLc := h4.lown.le
      refine ⟨L1, h0 h4, need (by simp; omega) ?_⟩
      rw [hsl, Int.toNat_natCast]
      exact k _ _ _ w4 (U3.step u4 (fun x hx => (nw3 x (rmB_mem.2 (.inl (by simpa using hx)))).symm)) ⟨L1, D3, lc3, ds3, h4, rfl, by omega, by omega, le3.upd u4 (fun d hd x hx => nb x (o3 d hd x hx).1), m3, rfl, rfl⟩ nw3
  clear hJ
  have hLl := hM.lrow.len
  have hlM := hM.llen
  have e1 : wr .i64 (wr .i64 (2 * (s.len : Int)) + 9) = (2 * l.length + 9 : Nat) := by rw [wr_i64 (x := 2 * (s.len : Int)) (by omega) (by omega), wr_i64 (by omega) (by omega)]; omega
  have e2 : wr .i64 (wr .i64 (2 * (s.len : Int)) + 20) = (2 * l.length + 20 : Nat) := by rw [wr_i64 (x := 2 * (s.len : Int)) (by omega) (by omega), wr_i64 (by omega) (by omega)]; omega
  refine ⟨L, h0 hM, ?_⟩
  rw [e1, e2]
  refine brd (fun hlt => need (by simp only [Bool.and_eq_true, decide_eq_true_eq]; omega) ?_) (fun hge => main L lc w hM (by omega) ((Upd.refl w).wide (by simp)) (fun x hx => .inl hx))
  intro b1 w1 u1 hr1
  rw [Int.toNat_natCast] at hr1 ⊢
  have n1 := u1.new (b := b1) (by simp)
  have hbr := hM.box.lt
  have hbN := hM.le
  rw [zerosO] at hr1
  have hs1 : Sees cOpt w1 ⟨some ⟨b1, 0, none⟩, 2 * l.length + 20, 2 * l.length + 20⟩ (List.replicate (2 * l.length + 20) (0, ⟨none, 0, 0⟩)) := sees_row hr1 _ rfl (by simp)
  have ho1 : Own N 2 w1 ⟨some ⟨b1, 0, none⟩, 2 * l.length + 20, 2 * l.length + 20⟩ := own_row hr1 (by omega) (by rw [cOpt.cells_length]; simp [cOpt]) (Nat.le_refl _)
  have h1 := hM.old u1
  refine bx_set0 (y := .sl ⟨some ⟨b1, 0, none⟩, 2 * l.length + 20, 2 * l.length + 20⟩) h1.box (show 0 < 3 by decide) rfl (by simp) fun w2 hx2 u2 => ?_
  have lt := hM.lt
  have nb : ∀ x, x ≠ br → x ∉ [br] := fun x hx hm => hx (by simpa using hm)
  have bb : ∀ x ∈ Sl.blk ⟨some ⟨b1, 0, none⟩, 2 * l.length + 20, 2 * l.length + 20⟩, x = b1 := fun x hx => by simpa [Sl.blk] using hx
  have oM := hM.offd
  refine main ⟨some ⟨b1, 0, none⟩, 2 * l.length + 20, 2 * l.length + 20⟩ _ w2 ⟨hx2, hM.le, hs1.upd u2 (fun x hx => nb x (by have := bb x hx; omega)), ho1.upd u2 (fun x hx => nb x (by have := bb x hx; omega)), by simp; omega, h1.drow.upd u2 (fun x hx => nb x (fun e => hM.base.2.1 (e ▸ hx))), h1.down.upd u2 (fun x hx => nb x (fun e => hM.base.2.1 (e ▸ hx))), hM.dlen, fun d hd => (h1.desk d hd).upd u2 (fun x hx => nb x (oM d hd x hx).1), hM.dis, ⟨fun hm => by have := bb _ hm; omega, hM.base.2.1, fun x hx hm => by have := bb x hx; have := (hM.down.blk x hm).2; omega⟩, fun d hd x hx => ⟨(oM d hd x hx).1, fun hm => by have := bb x hm; have := ((hM.desk d hd).lt x hx).2; omega, (oM d hd x hx).2.2⟩⟩ (by rw [List.length_replicate]; omega) ?_ (fun x hx => ?_)
  · exact (u1.wide (m' := rmB br L D ds) (by simp)).step u2 (fun x hx => .inr (rmB_mem.2 (.inl (by simpa using hx))))
  · rcases rmB_mem.1 hx with e | e | e | e
    · exact .inl (rmB_mem.2 (.inl e))
    · exact .inr (by have := bb x e; omega)
    · exact .inl (rmB_mem.2 (.inr (.inr (.inl e))))
    · exact .inl (rmB_mem.2 (.inr (.inr (.inr e))))
end
end Go.Vc.S6
