import Derived.Test.YtkkdnnpnbmpifaaS11RefA
open Go Go.Vc Go.Proofs
set_option linter.unusedVariables false
set_option linter.unusedSimpArgs false
set_option autoImplicit false
namespace Go.Vc.S11
/-- what a piece that is taken does to holes and bytes -/
theorem put_facts {S : Hs} {off : Int} {data : List Int} {more : Bool} (g : Good S) (he : errS S off data.length more = 0) (hb : Byt data) :
    bnd (putS S off data more) ≤ bnd S ∧ (more = false ∧ S.fin < 0 → bnd (putS S off data more) = off + data.length) ∧ (¬ (more = false ∧ S.fin < 0) → bnd (putS S off data more) = bnd S) ∧
    (∀ i, i < bnd (putS S off data more) → inG i (putS S off data more).gaps = (inG i S.gaps && !(decide (off ≤ i) && decide (i < off + data.length)))) ∧
    (putS S off data more).buf.length = S.buf.length + ((off + (data.length : Int)).toNat - S.buf.length) ∧
    (∀ i, 0 ≤ i → bt (putS S off data more).buf i = if inG i S.gaps && (decide (off ≤ i) && decide (i < off + (data.length : Int))) then bt data (i - off) else bt (S.buf ++ List.replicate ((off + (data.length : Int)).toNat - S.buf.length) 0) i) := by
  obtain ⟨p1, p2, _, _, p3, p4, p5, p6, p7⟩ := errS_ok he
  have O := g.ok
  have hoe : off < off + (data.length : Int) := by omega
  have gb := g.bnd_le
  have hB' : bnd (putS S off data more) ≤ bnd S ∧ (more = false ∧ S.fin < 0 → bnd (putS S off data more) = off + data.length) ∧ (¬ (more = false ∧ S.fin < 0) → bnd (putS S off data more) = bnd S) := by
    by_cases hf : more = false ∧ S.fin < 0
    · have e1 : (putS S off data more).fin = off + data.length := by simp only [putS]; rw [if_pos hf]
      have e2 : bnd (putS S off data more) = off + data.length := by unfold bnd; rw [e1, if_pos (by omega)]
      have e0 : bnd S = S.max := by unfold bnd; rw [if_neg (by omega)]
      exact ⟨by omega, fun _ => e2, fun q => absurd hf q⟩
    · have e1 : (putS S off data more).fin = S.fin := by simp only [putS]; rw [if_neg hf]
      have e2 : bnd (putS S off data more) = bnd S := by unfold bnd; rw [e1]; rfl
      exact ⟨by omega, fun q => absurd q hf, fun _ => e2⟩
  have pok := putB_ok (off := off) (e := off + data.length) p2 rfl p3 hb S.gaps (S.buf ++ List.replicate ((off + (data.length : Int)).toNat - S.buf.length) 0) (fun g hg => ⟨(O.gp g hg).1, (O.gp g hg).2.1⟩) (by simp; omega) (fun x hx => by
    rcases List.mem_append.1 hx with q | q
    · exact O.bb x q
    · rw [List.eq_of_mem_replicate q]; omega)
  refine ⟨hB'.1, hB'.2.1, hB'.2.2, fun i hi => ?_, ?_, fun i h0 => putB_bt p2 rfl p3 g.ri (by omega) (by simp; omega) i h0⟩
  · rw [← inG_cut hoe g.ri]
    show inG i (finG S (off + data.length) more (cutG off (off + data.length) S.gaps)) = _
    by_cases hf : more = false ∧ S.fin < 0
    · exact inG_finG (by have := hB'.2.1 hf; omega) (by omega)
    · rw [finG_no hf]
  · show (putB off (off + data.length) data S.gaps _).length = _
    rw [pok.1]; simp
/-- the program's and the document's say the same -/
structure Rl (S : Hs) (W : Wh) : Prop where
  g : Good S
  mx : W.max = S.max
  fn : W.fin = S.fin
  dl : W.data.length = W.has.length
  le : (W.has.length : Int) ≤ bnd S
  last : 0 < W.has.length → hasAt W (W.has.length - 1) = true
  hole : ∀ i : Nat, (i : Int) < bnd S → inG i S.gaps = !hasAt W i
  byte : ∀ i : Nat, hasAt W i = true → bt S.buf i = bt W.data i ∧ i < S.buf.length
  full : 0 ≤ S.fin → (W.has.length : Int) = S.fin
  seen : ∀ k, k ∈ S.seen ↔ k ∈ W.pcs
  db : Byt W.data
theorem hasAt_lt {W : Wh} {i : Nat} (h : hasAt W i = true) : i < W.has.length := by
  unfold hasAt at h
  rcases Nat.lt_or_ge i W.has.length with c | c
  · exact c
  · rw [List.getD_eq_getElem?_getD, List.getElem?_eq_none c] at h; cases h
theorem Rl.new {mx : Int} (h1 : 1 ≤ mx) (h2 : mx ≤ 65535) : Rl ⟨mx, [], [(0, mx)], -1, 0, []⟩ ⟨mx, [], [], -1, []⟩ := by
  have e : bnd ⟨mx, [], [(0, mx)], -1, 0, []⟩ = mx := by simp [bnd]
  refine ⟨Good.new h1 h2, rfl, rfl, rfl, by rw [e]; simp; omega, by simp, fun i hi => ?_, fun i h => ?_, by simp, by simp, by simp [Byt]⟩
  · rw [e] at hi
    simp [inG, hasAt, hi]
  · simp [hasAt] at h
section
variable {S : Hs} {W : Wh} {off : Int} {l : List Int} {more : Bool}
theorem Rl.top (r : Rl S W) (hf : S.fin < 0) : topS S = W.has.length := by
  have e0 : bnd S = S.max := by unfold bnd; rw [if_neg (by omega)]
  have gb := r.g.mx
  have ri := r.g.ri
  have le := r.le
  have last := r.last
  have hole := r.hole
  rw [e0] at ri le hole
  have no : ∀ i : Nat, W.has.length ≤ i → hasAt W i = false := fun i hi => by
    rw [Bool.eq_false_iff]; intro h; have := hasAt_lt h; omega
  rcases List.eq_nil_or_concat S.gaps with q | ⟨c, y, q⟩
  · unfold topS; rw [q]
    simp only [List.getLast?_nil]
    rcases Int.lt_or_le (W.has.length : Int) S.max with a | a
    · have := hole W.has.length a
      rw [q, no _ (Nat.le_refl _)] at this
      cases this
    · omega
  · rw [List.concat_eq_append] at q
    have tq : topS S = if y.2 = S.max then y.1 else S.max := by unfold topS; rw [q, List.getLast?_concat]
    rw [q] at ri
    obtain ⟨k1, k2, k3, k4, k5⟩ := Rise.init ri
    have hm : S.max = ((S.max.toNat : Nat) : Int) := by omega
    rcases Int.lt_or_le (W.has.length : Int) S.max with a | a
    · have h1 := topS_le (L := W.has.length) r.g hf a (fun i h1 h2 => by
        have := hole i.toNat (by omega)
        rw [Int.toNat_of_nonneg (by omega)] at this
        rw [this, no _ (by omega)]; rfl)
      have hy : y.2 = S.max := by
        have h3 := hole (S.max.toNat - 1) (by omega)
        rw [no _ (by omega)] at h3
        obtain ⟨x, hx, z1, z2⟩ := inG_mem h3
        rw [q] at hx
        rcases List.mem_append.1 hx with hx | hx
        · have := k2 x hx; omega
        · rw [List.mem_singleton] at hx; subst hx; omega
      rw [tq, if_pos hy] at h1 ⊢
      rcases Int.lt_or_le y.1 (W.has.length : Int) with b | b
      · exfalso
        have hl : 0 < W.has.length := by omega
        have h3 := hole (W.has.length - 1) (by omega)
        rw [last hl] at h3
        rw [inG_of (l := S.gaps) (g := y) (by rw [q]; simp) (by omega) (by omega)] at h3
        cases h3
      · omega
    · have hl : 0 < W.has.length := by omega
      have h3 := hole (W.has.length - 1) (by omega)
      rw [last hl] at h3
      have hy : y.2 ≠ S.max := fun e => by
        rw [inG_of (l := S.gaps) (g := y) (by rw [q]; simp) (by omega) (by omega)] at h3
        cases h3
      rw [tq, if_neg hy]
      omega
theorem Rl.err (r : Rl S W) (off : Int) (n : Nat) (more : Bool) : errW W off n more = errS S off n more := by
  unfold errS errW
  rw [r.mx, r.fn]
  have : (S.fin < 0 ∧ more = false ∧ off + (n : Int) < topS S) = (S.fin < 0 ∧ more = false ∧ off + (n : Int) < (W.has.length : Int)) := by
    refine propext ⟨fun ⟨a, b, c⟩ => ⟨a, b, by rw [← r.top a]; exact c⟩, fun ⟨a, b, c⟩ => ⟨a, b, by rw [r.top a]; exact c⟩⟩
  simp only [this]
theorem hasAt_put (i : Nat) : hasAt (putW W off l more) i = (hasAt W i || inP off.toNat l.length i) := by
  unfold putW
  have e : hasAt { max := W.max, has := hasT W (Max.max W.has.length (off.toNat + l.length)) off.toNat l.length, data := dataT W (Max.max W.has.length (off.toNat + l.length)) off.toNat l l.length, fin := if more = false then off + l.length else W.fin, pcs := W.pcs ++ [(off, (l.length : Int), more)] } i = (hasT W (Max.max W.has.length (off.toNat + l.length)) off.toNat l.length).getD i false := rfl
  simp only
  rw [e, List.getD_eq_getElem?_getD]
  by_cases c : i < Max.max W.has.length (off.toNat + l.length)
  · rw [hasT_get c]; rfl
  · rw [List.getElem?_eq_none (by rw [hasT_len]; omega)]
    have h1 : hasAt W i = false := by rw [Bool.eq_false_iff]; intro h; have := hasAt_lt h; omega
    have h2 : inP off.toNat l.length i = false := by unfold inP; simp; omega
    rw [h1, h2]; rfl
theorem data_put {i : Nat} (h : i < Max.max W.has.length (off.toNat + l.length)) : bt (putW W off l more).data i = if !hasAt W i && inP off.toNat l.length i then bt l ((i : Int) - off.toNat) else bt W.data i := by
  have e : bt (putW W off l more).data i = (dataT W (Max.max W.has.length (off.toNat + l.length)) off.toNat l l.length).getD i 0 := rfl
  rw [e, List.getD_eq_getElem?_getD, dataT_get h]; rfl
theorem putW_len : (putW W off l more).has.length = Max.max W.has.length (off.toNat + l.length) := hasT_len _ _ _ _
theorem Rl.put (r : Rl S W) (he : errS S off l.length more = 0) (hb : Byt l) : Rl (putS S off l more) (putW W off l more) := by
  obtain ⟨p1, p2, _, _, p3, p4, p5, p6, p7⟩ := errS_ok he
  obtain ⟨f1, f2, f2', f3, f4, f5⟩ := put_facts r.g he hb
  have gb := r.g.bnd_le
  have le := r.le
  have fn := r.fn
  have full := r.full
  have ho : ((off.toNat : Nat) : Int) = off := Int.toNat_of_nonneg p2
  have fi := r.g.fi
  have hle : ((putW W off l more).has.length : Int) ≤ bnd (putS S off l more) ∧ (W.has.length : Int) ≤ bnd (putS S off l more) := by
    rw [putW_len]
    by_cases hf : more = false ∧ S.fin < 0
    · have h1 := p7 hf.2 hf.1
      rw [r.top hf.2] at h1
      rw [f2 hf]; omega
    · rw [f2' hf]
      have hend : off + (l.length : Int) ≤ bnd S := by
        unfold bnd
        by_cases h0 : 0 ≤ S.fin
        · rw [if_pos h0]
          cases more
          · have := p5 h0 rfl; omega
          · have := p6 h0 rfl; omega
        · rw [if_neg h0]; omega
      omega
  have hinP : ∀ i : Nat, (decide (off ≤ (i : Int)) && decide ((i : Int) < off + (l.length : Int))) = inP off.toNat l.length i := fun i => by
    unfold inP; rw [Bool.eq_iff_iff]; simp; omega
  refine ⟨r.g.put he hb, r.mx, ?_, ?_, hle.1, fun h => ?_, fun i hi => ?_, fun i h => ?_, fun h => ?_, fun k => ?_, ?_⟩
  · show (if more = false then off + (l.length : Int) else W.fin) = if more = false ∧ S.fin < 0 then off + (l.length : Int) else S.fin
    rw [fn]
    by_cases hm : more = false
    · rw [if_pos hm]
      by_cases hf : S.fin < 0
      · rw [if_pos ⟨hm, hf⟩]
      · rw [if_neg (fun q => hf q.2)]; exact p5 (by omega) hm
    · rw [if_neg hm, if_neg (fun q => hm q.1)]
  · show (dataT _ _ _ _ _).length = (hasT _ _ _ _).length
    rw [dataT_len, hasT_len]
  · rw [hasAt_put, putW_len]
    rcases Nat.lt_or_ge (off.toNat + l.length) W.has.length with c | c
    · rw [show Max.max W.has.length (off.toNat + l.length) = W.has.length by omega, r.last (by omega)]; rfl
    · have : inP off.toNat l.length (Max.max W.has.length (off.toNat + l.length) - 1) = true := by unfold inP; simp; omega
      rw [this, Bool.or_true]
  · rw [f3 i hi, r.hole i (by omega), hasAt_put, hinP]
    cases hasAt W i <;> rfl
  · rw [hasAt_put] at h
    have hiL : i < Max.max W.has.length (off.toNat + l.length) := by
      have : hasAt (putW W off l more) i = true := by rw [hasAt_put]; exact h
      have := hasAt_lt this
      rwa [putW_len] at this
    have h1 := hle.1
    rw [putW_len] at h1
    rw [f5 i (by omega), r.hole i (by omega), hinP, data_put hiL, ho]
    cases hh : hasAt W i with
    | false =>
      rw [hh] at h
      simp only [Bool.false_or] at h
      rw [h]
      simp only [Bool.not_false, Bool.and_self, if_true]
      refine ⟨trivial, ?_⟩
      unfold inP at h
      simp at h
      omega
    | true =>
      have hb2 := r.byte i hh
      simp only [Bool.not_true, Bool.false_and, Bool.false_eq_true, if_false]
      refine ⟨?_, by omega⟩
      rw [← hb2.1]
      unfold bt
      simp only [List.getD_eq_getElem?_getD]
      rw [List.getElem?_append_left (by omega)]
  · rw [putW_len]
    have e : (putS S off l more).fin = if more = false ∧ S.fin < 0 then off + (l.length : Int) else S.fin := rfl
    rw [e] at h ⊢
    by_cases hf : more = false ∧ S.fin < 0
    · rw [if_pos hf]
      have h1 := p7 hf.2 hf.1
      rw [r.top hf.2] at h1
      omega
    · rw [if_neg hf] at h ⊢
      have h2 := full h
      cases more
      · have := p5 h rfl; omega
      · have := p6 h rfl; omega
  · show k ∈ (if (off, (l.length : Int), more) ∈ S.seen then S.seen else S.seen ++ [(off, (l.length : Int), more)]) ↔ k ∈ W.pcs ++ [(off, (l.length : Int), more)]
    rw [List.mem_append, List.mem_singleton, ← r.seen k]
    split
    · rename_i h
      exact ⟨.inl, fun x => x.elim id (fun e => e ▸ h)⟩
    · rw [List.mem_append, List.mem_singleton]
  · intro x hx
    obtain ⟨i, hi, rfl⟩ := List.mem_map.1 (show x ∈ (List.range _).map _ from hx)
    split
    · exact hb.bt _
    · exact r.db.bt _
theorem newC_cnt {W : Wh} {o N : Nat} : ∀ {t : Nat}, o + t ≤ N → ((newC W o t : Nat) : Int) = cntI (fun i => !hasAt W i && inP o t i) N
  | 0, h => by
    have h0 : ∀ i, i < N → (!hasAt W i && inP o 0 i) = false := fun i _ => by
      have : inP o 0 i = false := by unfold inP; simp
      rw [this, Bool.and_false]
    rw [cntI_false h0]
    rfl
  | t + 1, h => by
    have ih := newC_cnt (W := W) (o := o) (N := N) (t := t) (by omega)
    have e : cntI (fun i => !hasAt W i && inP o (t + 1) i) N = cntI (fun i => !hasAt W i && inP o t i) N + cntI (fun i => !hasAt W (o + t) && (decide (((o + t : Nat) : Int) ≤ (i : Int)) && decide ((i : Int) < ((o + t + 1 : Nat) : Int)))) N := by
      have hd : ∀ i, i < N → ¬ ((!hasAt W i && inP o t i) = true ∧ (!hasAt W (o + t) && (decide (((o + t : Nat) : Int) ≤ (i : Int)) && decide ((i : Int) < ((o + t + 1 : Nat) : Int)))) = true) := fun i hi ⟨q1, q2⟩ => by
        unfold inP at q1
        simp at q1 q2
        omega
      rw [← cntI_add hd]
      · refine cntI_congr fun i hi => ?_
        by_cases c : i = o + t
        · subst c
          have e1 : inP o (t + 1) (o + t) = true := by unfold inP; simp
          have e2 : inP o t (o + t) = false := by unfold inP; simp
          rw [e1, e2]
          simp
          intro _; omega
        · have e1 : inP o (t + 1) i = inP o t i := by unfold inP; rw [Bool.eq_iff_iff]; simp; omega
          have e2 : (decide (((o + t : Nat) : Int) ≤ (i : Int)) && decide ((i : Int) < ((o + t + 1 : Nat) : Int))) = false := by simp; omega
          rw [e1, e2]
          simp
    rw [e, ← ih]
    show ((newC W o t + (if hasAt W (o + t) = true then 0 else 1) : Nat) : Int) = _
    cases hasAt W (o + t) with
    | true =>
      have h0 : cntI (fun i => !true && (decide (((o + t : Nat) : Int) ≤ (i : Int)) && decide ((i : Int) < ((o + t + 1 : Nat) : Int)))) N = 0 := cntI_false fun _ _ => rfl
      rw [h0]; simp
    | false =>
      simp only [Bool.not_false, Bool.true_and]
      rw [cntI_between (by omega) (by omega)]
      simp only [Bool.false_eq_true, if_false]
      omega
theorem Rl.newN (r : Rl S W) (he : errS S off l.length more = 0) (hb : Byt l) : newN off (off + l.length) S.gaps = ((newC W off.toNat l.length : Nat) : Int) := by
  obtain ⟨p1, p2, _, _, p3, p4, p5, p6, p7⟩ := errS_ok he
  have gb := r.g.bnd_le
  have gm := r.g.mx
  have hoe : off < off + (l.length : Int) := by omega
  have hend : off + (l.length : Int) ≤ bnd S := by
    unfold bnd
    by_cases h0 : 0 ≤ S.fin
    · rw [if_pos h0]
      cases more
      · have := p5 h0 rfl; omega
      · have := p6 h0 rfl; omega
    · rw [if_neg h0]; omega
  have h1 := lens_cut hoe r.g.ri
  have h2 := lens_cnt (n := (bnd S).toNat) r.g.ri (by omega) (by omega)
  have h3 := lens_cnt (n := (bnd S).toNat) (r.g.ri.cut hoe) (by omega) (by omega)
  rw [newC_cnt (N := (bnd S).toNat) (by omega)]
  have e : cntI (fun i => inG (i : Int) S.gaps) (bnd S).toNat = cntI (fun i => inG (i : Int) (cutG off (off + l.length) S.gaps)) (bnd S).toNat + cntI (fun i => !hasAt W i && inP off.toNat l.length i) (bnd S).toNat := by
    have hd : ∀ i, i < (bnd S).toNat → ¬ (inG (i : Int) (cutG off (off + l.length) S.gaps) = true ∧ (!hasAt W i && inP off.toNat l.length i) = true) := fun i hi ⟨q1, q2⟩ => by
      rw [inG_cut hoe r.g.ri] at q1
      unfold inP at q2
      simp at q1 q2
      omega
    rw [← cntI_add hd]
    · refine cntI_congr fun i hi => ?_
      rw [inG_cut hoe r.g.ri, ← r.hole i (by omega)]
      have : inP off.toNat l.length i = (decide (off ≤ (i : Int)) && decide ((i : Int) < off + (l.length : Int))) := by unfold inP; rw [Bool.eq_iff_iff]; simp; omega
      rw [this]
      generalize inG (i : Int) S.gaps = x
      generalize (decide (off ≤ (i : Int)) && decide ((i : Int) < off + (l.length : Int))) = y
      cases x <;> cases y <;> rfl
  omega
theorem Rl.same (r : Rl S W) (he : errS S off l.length more = 0) (hb : Byt l) : sameS S off l more = (decide ((off, (l.length : Int), more) ∈ W.pcs) && sameC W off.toNat l l.length) := by
  obtain ⟨p1, p2, _, _, p3, p4, p5, p6, p7⟩ := errS_ok he
  obtain ⟨f1, f2, f2', f3, f4, f5⟩ := put_facts r.g he hb
  have gb := r.g.bnd_le
  have ho : ((off.toNat : Nat) : Int) = off := Int.toNat_of_nonneg p2
  have hend : off + (l.length : Int) ≤ bnd S := by
    unfold bnd
    by_cases h0 : 0 ≤ S.fin
    · rw [if_pos h0]
      cases more
      · have := p5 h0 rfl; omega
      · have := p6 h0 rfl; omega
    · rw [if_neg h0]; omega
  unfold sameS
  rw [show decide ((off, (l.length : Int), more) ∈ S.seen) = decide ((off, (l.length : Int), more) ∈ W.pcs) from decide_eq_decide.2 (r.seen _)]
  congr 1
  have key : ∀ j : Nat, j < l.length → (bt (putS S off l more).buf ((off.toNat + j : Nat) : Int) = bt l (j : Int) ↔ (hasAt W (off.toNat + j) = true → bt W.data ((off.toNat + j : Nat) : Int) = bt l (j : Int))) := fun j hj => by
    rw [f5 _ (by omega), r.hole _ (by omega)]
    have e1 : (decide (off ≤ ((off.toNat + j : Nat) : Int)) && decide (((off.toNat + j : Nat) : Int) < off + (l.length : Int))) = true := by simp; omega
    rw [e1, Bool.and_true]
    cases hh : hasAt W (off.toNat + j) with
    | false =>
      simp only [Bool.not_false, if_true, Bool.false_eq_true, false_implies, iff_true]
      congr 1
      omega
    | true =>
      have hb2 := r.byte _ hh
      simp only [Bool.not_true, Bool.false_eq_true, if_false, true_implies]
      rw [← hb2.1]
      unfold bt
      simp only [List.getD_eq_getElem?_getD]
      rw [List.getElem?_append_left (by omega)]
  rw [Bool.eq_iff_iff, decide_eq_true_iff]
  unfold sameC
  rw [List.all_eq_true]
  have hlen : (((putS S off l more).buf.take (off + (l.length : Int)).toNat).drop off.toNat).length = l.length := by simp; omega
  constructor
  · intro h j hj
    have hj := List.mem_range.1 hj
    have h1 : bt (putS S off l more).buf ((off.toNat + j : Nat) : Int) = bt l (j : Int) := by
      have e1 : bt (((putS S off l more).buf.take (off + (l.length : Int)).toNat).drop off.toNat) (j : Int) = bt (putS S off l more).buf ((off.toNat + j : Nat) : Int) := by
        unfold bt
        simp only [List.getD_eq_getElem?_getD, List.getElem?_drop, Int.toNat_natCast]
        rw [List.getElem?_take_of_lt (by omega)]
      rw [← e1, h]
    have := (key j hj).1 h1
    cases hh : hasAt W (off.toNat + j) with
    | false => rfl
    | true => rw [decide_eq_true (this hh)]; rfl
  · intro h
    refine List.ext_getElem hlen fun j h1 h2 => ?_
    have hk := (key j h2).2 (fun hh => by have := h j (List.mem_range.2 h2); rw [hh] at this; simpa using this)
    rw [List.getElem_drop, List.getElem_take]
    unfold bt at hk
    simp only [List.getD_eq_getElem?_getD, Int.toNat_natCast] at hk
    rw [List.getElem?_eq_getElem (by omega), List.getElem?_eq_getElem h2] at hk
    exact hk
theorem Rl.held (r : Rl S W) : S.held = cntI (hasAt W) W.has.length := by
  have gb := r.g.bnd_le
  have le := r.le
  have h1 := r.g.sum
  have h2 := lens_cnt (n := (bnd S).toNat) r.g.ri (by omega) (by omega)
  rw [cntI_congr (g := fun i => !hasAt W i) fun i hi => r.hole i (by omega), cntI_not] at h2
  rw [cntI_more (f := hasAt W) (m := W.has.length) (by omega) fun i a b => by rw [Bool.eq_false_iff]; intro h; have := hasAt_lt h; omega] at h2
  omega
theorem Rl.wholeEq (r : Rl S W) : wholeS S = (decide (W.fin ≥ 0) && (S.held == W.fin)) := by
  rw [r.fn]
  by_cases h : 0 ≤ S.fin
  · rw [whole_held r.g h, decide_eq_true (show S.fin ≥ 0 from h), Bool.true_and]
    rfl
  · unfold wholeS
    rw [decide_eq_false (show ¬ S.fin ≥ 0 from h)]; rfl
theorem Rl.bytes (r : Rl S W) (hw : wholeS S = true) : S.fin ≤ S.buf.length ∧ S.buf.take S.fin.toNat = W.data := by
  unfold wholeS at hw
  simp only [Bool.and_eq_true, decide_eq_true_eq, List.isEmpty_iff] at hw
  have h0 : 0 ≤ S.fin := hw.1
  have fl := r.full h0
  have dl := r.dl
  have eb : bnd S = S.fin := by unfold bnd; rw [if_pos h0]
  have gb := r.g.bnd_le
  have all : ∀ i : Nat, (i : Int) < S.fin → bt S.buf i = bt W.data i ∧ i < S.buf.length := fun i hi => by
    refine r.byte i ?_
    have := r.hole i (by omega)
    rw [hw.2] at this
    simp only [inG] at this
    cases hh : hasAt W i with
    | true => rfl
    | false => rw [hh] at this; cases this
  have hl := (all (S.fin.toNat - 1) (by omega)).2
  refine ⟨by omega, List.ext_getElem (by simp; omega) fun i a b => ?_⟩
  have := (all i (by omega)).1
  rw [List.getElem_take]
  unfold bt at this
  simp only [List.getD_eq_getElem?_getD, Int.toNat_natCast] at this
  rw [List.getElem?_eq_getElem (by simp at a; omega), List.getElem?_eq_getElem b] at this
  exact this
end
end Go.Vc.S11
