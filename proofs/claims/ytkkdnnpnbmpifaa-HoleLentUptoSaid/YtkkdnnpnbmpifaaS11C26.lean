import Derived.Test.YtkkdnnpnbmpifaaS11RefP
open Go Go.Vc Go.Proofs
set_option linter.unusedVariables false
set_option linter.unusedSimpArgs false
set_option autoImplicit false
namespace Go.Vc.S11
section
variable {N h : Nat} {w w1 : World} {W : Wh} {A D P : Sl} {R : SV → World → Prop} {S : Hs}
def lenAt (h L : Nat) (w : World) : Nat := match w.cell? ((⟨h, 0, none⟩ : Addr).add 1) with | some (.slice _ n _) => L - n | _ => 0
theorem lenAt_eq {L : Nat} (H : Whl N w h W A D P) : lenAt h L w = L - W.has.length := by
  unfold lenAt
  rw [H.box.sl 1 A rfl]
  simp only [Sl.val, H.has.len]
theorem wblkA {x : Nat} (hx : x ∈ h :: A.blk) : x ∈ wblk h A D P := by
  rcases List.mem_cons.1 hx with rfl | hx <;> simp [wblk, *]
theorem wblkD {x : Nat} (hx : x ∈ h :: D.blk) : x ∈ wblk h A D P := by
  rcases List.mem_cons.1 hx with rfl | hx <;> simp [wblk, *]
theorem wblkP {x : Nat} (hx : x ∈ h :: P.blk) : x ∈ wblk h A D P := by
  rcases List.mem_cons.1 hx with rfl | hx <;> simp [wblk, *]
theorem wblk_nw {x n : Nat} {A2 D2 P2 : Sl} (ha : ∀ x ∈ A2.blk, x ∈ A.blk ∨ n ≤ x) (hd : ∀ x ∈ D2.blk, x ∈ D.blk ∨ n ≤ x) (hp : ∀ x ∈ P2.blk, x ∈ P.blk ∨ n ≤ x) (hx : x ∈ wblk h A2 D2 P2) : x ∈ wblk h A D P ∨ n ≤ x := by
  simp only [wblk, List.mem_cons, List.mem_append] at hx ⊢
  rcases hx with rfl | q | q | q
  · exact .inl (.inl rfl)
  · rcases ha x q with z | z
    · exact .inl (.inr (.inl z))
    · exact .inr z
  · rcases hd x q with z | z
    · exact .inl (.inr (.inr (.inl z)))
    · exact .inr z
  · rcases hp x q with z | z
    · exact .inl (.inr (.inr (.inr z)))
    · exact .inr z
set_option maxRecDepth 20000 in
theorem c26 {off : Int} {data : Sl} {l : List Int} {more : Bool} (r : Rl S W) (H : Whl N w h W A D P) (hd : SeesB w data l) (hb : Byt l) (hll : l.length < 9223372036854775807) (hpl : W.pcs.length ≤ 1099511627776) (hdis : ∀ x ∈ data.blk, x < w.heap.size ∧ x ∉ wblk h A D P)
    (ke : ∀ w1, Upd [] [] w w1 → errS S off l.length more ≠ 0 → R (.tuple [.struct [.int .i64 0, .int .i64 0, .bool false], .int .i64 (errS S off l.length more)]) w1)
    (k : ∀ A' D' P' w1, errS S off l.length more = 0 → Upd (wblk h A D P) [] w w1 → Whl N w1 h (putW W off l more) A' D' P' → (∀ x ∈ wblk h A' D' P', x ∈ wblk h A D P ∨ w.heap.size ≤ x) →
      R (.tuple [.struct [.int .i64 (newN off (off + l.length) S.gaps), .int .i64 (l.length - newN off (off + l.length) S.gaps), .bool (sameS S off l more)], .int .i64 0]) w1) :
    Ret Try.prog 26 [.ptr (some ⟨h, 0, none⟩), .int .i64 off, .slice data, .bool more] w R := by
  refine f26_of _ _ _ _ _ _ ?_
  unfold vc26
  have hdl := hd.len
  have gb := r.g.bnd_le
  have gm := r.g.mx
  have le := r.le
  have dl := r.dl
  intro b w1 u1
  have nb := u1.new (b := b) (by simp)
  have z1 := u1.size
  have lt := H.lt
  have M1 : Mid N w w1 w1.heap.size h A D P W A D P data l := ⟨H.old u1, u1.wide (by simp), fun x hx => .inl hx, hd.old u1, fun x hx => (lt x hx).2, ⟨z1, Nat.le_refl _⟩, hdis⟩
  refine c41 M1.H (by rw [r.mx]; exact gm.2) (by omega) (by omega) ⟨_, rfl, kp (Upd.refl _), ?_⟩
  rw [hdl, r.err]
  refine bre' (fun hne => fun w2 u2 => ke w2 (u1.step0 u2 (fun x hx => by rw [List.mem_singleton] at hx; omega)) hne) (fun he => ?_)
  obtain ⟨p1, p2, _, _, p3, p4, p5, p6, p7⟩ := errS_ok he
  have eN := r.newN he hb
  have eS := r.same he hb
  have ew : wr .i64 (off + (l.length : Int)) = off + l.length := wr_i64 (by omega) (by omega)
  rw [ew]
  have ho : ((off.toNat : Nat) : Int) = off := Int.toNat_of_nonneg p2
  generalize hoo : off.toNat = o at *
  have hL : Max.max W.has.length (o + l.length) ≤ 65535 := by omega
  have hbn : ∀ {w' : World} {W' : Wh} {A' D' P' : Sl}, Mid N w w' w1.heap.size h A D P W' A' D' P' data l → ∀ x ∈ wblk h A' D' P', x ∉ [b] := fun m x hx hm => by
    rw [List.mem_singleton] at hm
    subst hm
    rcases m.nw x hx with q | q
    · have := lt x q; omega
    · omega
  refine ⟨fun w' => ∃ (q : Nat) (A' D' : Sl), Mid N w w' w1.heap.size h A D P { W with has := W.has ++ List.replicate q false, data := W.data ++ List.replicate q 0 } A' D' P data l ∧ W.has.length + q ≤ Max.max W.has.length (o + l.length), lenAt h (Max.max W.has.length (o + l.length)), ⟨0, A, D, by simpa using M1, by omega⟩, ?_⟩
  rintro w2 ⟨q, A2, D2, M2, hq⟩
  have hA2 := M2.H.has.len
  simp only [List.length_append, List.length_replicate] at hA2
  dsimp only [deref]
  refine ⟨A2, M2.H.box.sl 1 A2 rfl, brd (fun hlt => ?_) (fun hge => ?_)⟩
  · refine ⟨A2, M2.H.box.sl 1 A2 rfl, fun b1 w3 u3 hr3 => ?_⟩
    have M3 := M2.old u3
    refine M3.H.appA hr3 (by decide) (by simp; omega) (hbn M3) fun A4 w4 u4 H4 n4 => ?_
    have M4 := M3.put u4 (fun x hx => wblkA hx) H4 (fun x hx => wblk_nw n4 (fun x hx => .inl hx) (fun x hx => .inl hx) hx)
    refine ⟨D2, M4.H.box.sl 2 D2 rfl, fun b2 w5 u5 hr5 => ?_⟩
    have M5 := M4.old u5
    refine M5.H.appD hr5 (by decide) (by simp; omega) (hbn M5) fun D6 w6 u6 H6 n6 => ?_
    have M6 := M5.put u6 (fun x hx => wblkD hx) H6 (fun x hx => wblk_nw (fun x hx => .inl hx) n6 (fun x hx => .inl hx) hx)
    have e1 : W.has ++ List.replicate q false ++ [false] = W.has ++ List.replicate (q + 1) false := by rw [List.append_assoc, ← List.replicate_succ']
    have e2 : W.data ++ List.replicate q 0 ++ [0] = W.data ++ List.replicate (q + 1) 0 := by rw [List.append_assoc, ← List.replicate_succ']
    dsimp only at M6
    rw [e1, e2] at M6
    (repeat refine And.intro rfl ?_)
    refine ⟨⟨q + 1, A4, D6, M6, by omega⟩, ?_⟩
    rw [lenAt_eq M6.H, lenAt_eq M2.H]
    simp
    omega
  · -- all is long enough
    have hqL : W.has.length + q = Max.max W.has.length (o + l.length) := Nat.le_antisymm hq (Nat.max_le.2 ⟨by omega, by omega⟩)
    generalize hLL : Max.max W.has.length (o + l.length) = L at *
    have eA : W.has ++ List.replicate q false = hasT W L o 0 := by rw [hasT_zero (by omega)]; congr 2; omega
    have eD : W.data ++ List.replicate q 0 = dataT W L o l 0 := by rw [dataT_zero (by omega)]; congr 2; omega
    rw [eA, eD] at M2
    have hoL : o + l.length ≤ L := by rw [← hLL]; exact Nat.le_max_right _ _
    intro b1
    refine ⟨fun sm n nw od fl w' => ∃ t : Nat, n = t ∧ t ≤ l.length ∧ sm = sameC W o l t ∧ nw = ((newC W o t : Nat) : Int) ∧ od = t - ((newC W o t : Nat) : Int) ∧ fl = false ∧ (w2.heap.size ≤ b1 ∧ b1 < w'.heap.size) ∧ Mid N w w' w1.heap.size h A D P { W with has := hasT W L o t, data := dataT W L o l t } A2 D2 P data l, fun _ n _ _ _ _ => (l.length - n).toNat, ⟨fun w3 u3 => ⟨0, rfl, by omega, rfl, rfl, by simp [newC], rfl, u3.new (by simp), M2.old u3⟩, ?_⟩⟩
    rintro sm n nw od fl w3 ⟨t, rfl, ht, rfl, rfl, rfl, rfl, hb1, M3⟩
    have lt2 := M2.H.lt
    have b12 : ∀ x ∈ wblk h A2 D2 P, x ∉ [b, b1] := fun x hx hm => by
      have := hbn M2 x hx
      have := lt2 x hx
      simp only [List.mem_cons, List.not_mem_nil, or_false] at hm
      rcases hm with q | q
      · exact hbn M2 x hx (by simp [q])
      · omega
    have nbz := M2.nb
    have b1up : ∀ {w' w'' : World}, Mid N w w' w1.heap.size h A D P { W with has := hasT W L o t, data := dataT W L o l t } A2 D2 P data l → Upd [b1] [] w' w'' → Mid N w w'' w1.heap.size h A D P { W with has := hasT W L o t, data := dataT W L o l t } A2 D2 P data l := fun m u => m.upd u (fun x hx => by
      rw [List.mem_singleton] at hx
      subst hx
      exact ⟨by omega, fun hm => by have := lt2 _ hm; omega⟩)
    have hA3 := M3.H.has.len
    have hD3 := M3.H.data.len
    simp only [hasT_len] at hA3
    simp only [dataT_len] at hD3
    refine brd (fun hlt => ?_) (fun hge2 => ?_)
    · intro J hJ
      have eo : wr .i64 (off + (t : Int)) = ((o + t : Nat) : Int) := by rw [wr_i64 (by omega) (by omega)]; omega
      rw [eo]
      have hinP : inP o t (o + t) = false := by unfold inP; simp
      have hv : (hasT W L o t)[o + t]? = some (hasAt W (o + t)) := by rw [hasT_get (by omega), hinP, Bool.or_false]
      have nc := newC_le W o t
      have aix : ∀ (w' : World) (X : Prop), Mid N w w' w1.heap.size h A D P { W with has := hasT W L o t, data := dataT W L o l t } A2 D2 P data l → X → Need (decide (0 ≤ ((o + t : Nat) : Int)) && decide (((o + t : Nat) : Int) < (A2.len : Int)) && A2.ptr.isSome) X := fun w' X m x => needIx (by omega) (by omega) (m.H.has.isSome (by decide) (by simp [hasT_len]; omega)) x
      refine ⟨A2, M3.H.box.sl 1 A2 rfl, aix w3 _ M3 ⟨hasAt W (o + t), by rw [Int.toNat_natCast]; exact boolAt M3.H.has _ hv, brb (fun hh => ?_) (fun hh => ?_)⟩⟩
      · -- held already
        intro w4 u4
        have M4 := b1up M3 u4
        have eT1 := hasT_succ_old (L := L) hh
        have eT2 := dataT_succ_old (L := L) (l := l) hh
        have eC : newC W o (t + 1) = newC W o t := by show newC W o t + (if hasAt W (o + t) = true then 0 else 1) = _; rw [if_pos hh, Nat.add_zero]
        have eo2 : wr .i64 ((t : Int) - ((newC W o t : Nat) : Int) + 1) = ((t + 1 : Nat) : Int) - ((newC W o (t + 1) : Nat) : Int) := by rw [wr_i64 (by omega) (by omega), eC]; omega
        have next : ∀ (w5 : World) (v : Bool), Upd [] [] w4 w5 → v = sameC W o l (t + 1) → J v ((newC W o t : Nat) : Int) (wr .i64 ((t : Int) - ((newC W o t : Nat) : Int) + 1)) false w5 := fun w5 v u5 hv => by
          have M5 := M4.old u5
          have z5 := u5.size
          have z4 := u4.size
          refine hJ _ _ _ _ _ ?_
          (repeat refine And.intro rfl ?_)
          refine ⟨⟨t + 1, wr_succ (by omega), by omega, hv, by rw [eC], eo2, rfl, by omega, by rw [eT1, eT2]; exact M5⟩, by rw [wr_succ (q := t) (by omega)]; (try dsimp only); omega⟩
        refine brb (fun hs => ?_) (fun hs => fun w5 u5 => ?_)
        · refine ⟨D2, M4.H.box.sl 2 D2 rfl, needIx (by omega) (by omega) (M4.H.data.isSome (by decide) (by simp [dataT_len]; omega)) ⟨bt W.data ((o + t : Nat) : Int), ?_, ?_⟩⟩
          · have := M4.H.data.byte (i := ((o + t : Nat) : Int)) (by omega) (by simp [dataT_len]; omega)
            rw [this]
            congr 2
            have h1 : bt (dataT W L o l t) ((o + t : Nat) : Int) = (dataT W L o l t).getD (o + t) 0 := rfl
            rw [h1, List.getD_eq_getElem?_getD, dataT_get (by omega), hh]
            rfl
          · refine needB' M4.d (by omega) (by omega) ⟨_, M4.d.byte (by omega) (by omega), fun w5 u5 => ?_⟩
            (repeat refine And.intro rfl ?_)
            refine next w5 _ u5 ?_
            rw [sameC_succ, hs, hh]
            simp
            rfl
        · (repeat refine And.intro rfl ?_)
          refine next w5 _ u5 ?_
          rw [sameC_succ, hs]
          rfl
      · -- new
        intro w4 u4
        have M4 := b1up M3 u4
        have z4 := u4.size
        have eC : newC W o (t + 1) = newC W o t + 1 := by show newC W o t + (if hasAt W (o + t) = true then 0 else 1) = _; rw [if_neg (by rw [hh]; simp)]
        refine ⟨A2, M4.H.box.sl 1 A2 rfl, aix w4 _ M4 ?_⟩
        rw [Int.toNat_natCast]
        refine M4.H.cellA (by simp [hasT_len]; omega) (fun x hx => b12 x (by simp [wblk, hx])) fun w5 u5 H5 => ?_
        have M5 := M4.put u5 (fun x hx => by simp [wblk, hx]) H5 (fun x hx => .inl hx)
        have z5 := u5.size
        dsimp only at M5
        rw [hasT_succ_new (by omega)] at M5
        refine ⟨D2, M5.H.box.sl 2 D2 rfl, needB' M5.d (by omega) (by omega) ⟨_, M5.d.byte (by omega) (by omega), ?_⟩⟩
        refine needIx (by omega) (by omega) (M5.H.data.isSome (by decide) (by simp [dataT_len]; omega)) fun w6 u6 => ?_
        have M6 := M5.old u6
        have z6 := u6.size
        refine M6.H.cellD (by simp [dataT_len]; omega) (fun x hx => b12 x (by simp [wblk, hx])) fun w7 u7 H7 => ?_
        have M7 := M6.put u7 (fun x hx => by simp [wblk, hx]) H7 (fun x hx => .inl hx)
        have z7 := u7.size
        dsimp only at M7
        rw [dataT_succ_new (by omega) hh] at M7
        (repeat refine And.intro rfl ?_)
        refine hJ _ _ _ _ _ ?_
        (repeat refine And.intro rfl ?_)
        refine ⟨⟨t + 1, wr_succ (by omega), by omega, ?_, ?_, ?_, rfl, by omega, M7⟩, by rw [wr_succ (q := t) (by omega)]; (try dsimp only); omega⟩
        · rw [sameC_succ, hh]; simp
        · rw [wr_i64 (by omega) (by omega), eC]; omega
        · rw [eC]; omega
    · have : t = l.length := by omega
      subst this
      have hPl := M3.H.pcs.len
      dsimp only at hPl
      have nc := newC_le W o l.length
      refine ⟨fun n nw od fl w' => ∃ t : Nat, n = t ∧ t ≤ W.pcs.length ∧ nw = ((newC W o l.length : Nat) : Int) ∧ od = (l.length : Int) - ((newC W o l.length : Nat) : Int) ∧ fl = (decide ((off, (l.length : Int), more) ∈ W.pcs.take t) && sameC W o l l.length) ∧ (w2.heap.size ≤ b1 ∧ b1 < w'.heap.size) ∧ Mid N w w' w1.heap.size h A D P { W with has := hasT W L o l.length, data := dataT W L o l l.length } A2 D2 P data l, fun n _ _ _ _ => (W.pcs.length - n).toNat, ⟨0, rfl, by omega, rfl, rfl, by simp, hb1, M3⟩, ?_⟩
      clear M3 hb1 hge2
      rintro n nw od fl w4 ⟨t, rfl, ht2, rfl, rfl, rfl, hb1, M4⟩
      refine ⟨P, M4.H.box.sl 4 P rfl, brd (fun hlt2 => ?_) (fun hge3 => ?_)⟩
      · intro J hJ
        have ht3 : t < W.pcs.length := by omega
        have c0 := M4.H.pcs.elem ht3 0 (by simp [cK])
        have c1 := M4.H.pcs.elem ht3 1 (by simp [cK])
        have c2 := M4.H.pcs.elem ht3 2 (by simp [cK])
        rw [add_zero] at c0
        refine ⟨P, M4.H.box.sl 4 P rfl, needIx (by omega) (by omega) (M4.H.pcs.isSome (by decide) (by dsimp only; omega)) ?_⟩
        rw [Int.toNat_natCast]
        refine ⟨_, c0, _, c1, _, c2, fun b6 => ?_⟩
        have htk : W.pcs.take (t + 1) = W.pcs.take t ++ [W.pcs[t]] := by rw [List.take_add_one, List.getElem?_eq_getElem ht3]; rfl
        have next : ∀ ms w5 (v : Bool), (ms = [b1] ∨ ms = []) → Upd ms [b6] w4 w5 → v = (decide ((off, (l.length : Int), more) ∈ W.pcs.take (t + 1)) && sameC W o l l.length) → J ((newC W o l.length : Nat) : Int) ((l.length : Int) - ((newC W o l.length : Nat) : Int)) v w5 := fun ms w5 v hms u5 hv => by
          have z5 := u5.size
          have M5 := M4.upd u5 (fun x hx => by
            have : x = b1 := by
              rcases hms with e | e
              · rw [e, List.mem_singleton] at hx; exact hx
              · rw [e] at hx; cases hx
            subst this
            exact ⟨by omega, fun hm => by have := lt2 _ hm; omega⟩)
          refine hJ _ _ _ _ ?_
          (repeat refine And.intro rfl ?_)
          exact ⟨⟨t + 1, wr_succ (by omega), by omega, rfl, rfl, hv, by omega, M5⟩, by rw [wr_succ (q := t) (by omega)]; (try dsimp only); omega⟩
        clear hJ
        have other : (W.pcs[t].1 ≠ off ∨ W.pcs[t].2.1 ≠ (l.length : Int) ∨ W.pcs[t].2.2 ≠ more ∨ sameC W o l l.length = false) → (decide ((off, (l.length : Int), more) ∈ W.pcs.take t) && sameC W o l l.length) = (decide ((off, (l.length : Int), more) ∈ W.pcs.take (t + 1)) && sameC W o l l.length) := fun q => by
          rcases q with q | q | q | q
          · congr 1
            rw [htk]
            refine decide_eq_decide.2 ⟨fun x => List.mem_append_left _ x, fun x => ?_⟩
            rcases List.mem_append.1 x with x | x
            · exact x
            · rw [List.mem_singleton] at x; exact absurd (congrArg (·.1) x).symm q
          · congr 1
            rw [htk]
            refine decide_eq_decide.2 ⟨fun x => List.mem_append_left _ x, fun x => ?_⟩
            rcases List.mem_append.1 x with x | x
            · exact x
            · rw [List.mem_singleton] at x; exact absurd (congrArg (·.2.1) x).symm q
          · congr 1
            rw [htk]
            refine decide_eq_decide.2 ⟨fun x => List.mem_append_left _ x, fun x => ?_⟩
            rcases List.mem_append.1 x with x | x
            · exact x
            · rw [List.mem_singleton] at x; exact absurd (congrArg (·.2.2) x).symm q
          · rw [q, Bool.and_false, Bool.and_false]
        refine bre (fun q1 => bre (fun q2 => bre (fun q3 => brb (fun q4 => fun w5 u5 => ?_) (fun q4 => fun w5 u5 => ?_)) (fun q3 => fun w5 u5 => ?_)) (fun q2 => fun w5 u5 => ?_)) (fun q1 => fun w5 u5 => ?_) <;> (repeat refine And.intro rfl ?_)
        · refine next _ w5 _ (.inl rfl) u5 ?_
          rw [q4, Bool.and_true]
          symm
          rw [decide_eq_true_iff, htk]
          refine List.mem_append_right _ ?_
          rw [List.mem_singleton]
          exact Prod.ext q1.symm (Prod.ext q2.symm q3.symm)
        · exact next _ w5 _ (.inr rfl) u5 (other (.inr (.inr (.inr q4))))
        · exact next _ w5 _ (.inr rfl) u5 (other (.inr (.inr (.inl q3))))
        · exact next _ w5 _ (.inr rfl) u5 (other (.inr (.inl q2)))
        · exact next _ w5 _ (.inr rfl) u5 (other (.inl q1))
      · have : t = W.pcs.length := by omega
        subst this
        rw [List.take_length]
        refine ⟨P, M4.H.box.sl 4 P rfl, fun b5 w5 u5 hr5 => ?_⟩
        have M5 := M4.old u5
        refine M5.H.appP (p := (off, (l.length : Int), more)) hr5 (by decide) (by dsimp only; omega) b12 fun P6 w6 u6 H6 n6 => ?_
        have M6 := M5.put u6 (fun x hx => wblkP hx) H6 (fun x hx => wblk_nw (fun x hx => .inl hx) (fun x hx => .inl hx) n6 hx)
        have b16 : ∀ x ∈ wblk h A2 D2 P6, x ∉ [b, b1] := fun x hx hm => by
          rcases wblk_nw (fun x hx => .inl hx) (fun x hx => .inl hx) n6 hx with q | q
          · exact b12 x q hm
          · have := u5.size
            simp only [List.mem_cons, List.not_mem_nil, or_false] at hm
            omega
        intro J hJ
        have fin : ∀ w7, Mid N w w7 w1.heap.size h A D P (putW W off l more) A2 D2 P6 data l → J w7 := fun w7 M7 => by
          refine hJ _ fun w8 u8 => ?_
          have M8 := M7.upd u8 (fun x hx => by
            rw [List.mem_singleton] at hx
            subst hx
            exact ⟨nb.1, fun hm => b16 _ hm (by simp)⟩)
          have := k A2 D2 P6 w8 he M8.u M8.H (fun x hx => by
            rcases M8.nw x hx with q | q
            · exact .inl q
            · exact .inr (by omega))
          rw [eN, eS] at this
          exact this
        have eput : putW W off l more = { W with has := hasT W L o l.length, data := dataT W L o l l.length, pcs := W.pcs ++ [(off, (l.length : Int), more)], fin := if more = false then off + l.length else W.fin } := by
          unfold putW
          simp only [hoo, hLL]
        rw [eput] at fin
        refine brn (fun hm => ?_) (fun hm => ?_)
        · refine M6.H.setF (fun hx => b16 h (by simp [wblk]) hx) fun w7 u7 H7 => ?_
          have M7 := M6.put u7 (fun x hx => by rw [List.mem_singleton] at hx; simp [wblk, hx]) H7 (fun x hx => .inl hx)
          (repeat refine And.intro rfl ?_)
          refine fin w7 ?_
          rw [if_pos hm]
          exact M7
        · (repeat refine And.intro rfl ?_)
          refine fin w6 ?_
          rw [if_neg (by rw [hm]; simp)]
          exact M6
end
end Go.Vc.S11
