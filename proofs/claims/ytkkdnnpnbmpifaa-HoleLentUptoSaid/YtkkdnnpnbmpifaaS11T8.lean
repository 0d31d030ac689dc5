import Derived.Test.YtkkdnnpnbmpifaaS11Ap
import Derived.Test.YtkkdnnpnbmpifaaS11Play
import Derived.Test.YtkkdnnpnbmpifaaLotG
open Go Go.Vc Go.Proofs
set_option linter.unusedVariables false
set_option linter.unusedSimpArgs false
set_option autoImplicit false
namespace Go.Vc.S11
section
variable {w0 w : World} {R : SV → World → Prop} {n nb bk : Nat} {p0 q0 p1 q1 : Option Addr} {L : List Nat}
/-- the mark of turn j -/
def mk8 (j : Nat) : Int × Int := (wr .i64 (-1 - (j : Int)), wr .i64 (-1 - (j : Int)))
theorem mk8_ok {j : Nat} {w : World} {s : Sl} {i k : Nat} {l : List (Int × Int)} (h : Sees cG w s l) (hl : l = List.replicate k (mk8 j)) (hi : i < k) :
    ∃ f : Nat → Int, (∀ x, x < 2 → w.cell? ((s.at 2 (Int.toNat (i : Int))).add (0 + x)) = some (.int .i64 (f x))) ∧ eqArr 2 f (fset (fset (fun _ => 0) 0 (wr .i64 (-1 - (j : Int)))) 1 (wr .i64 (-1 - (j : Int)))) = true := by
  subst hl
  refine ⟨fun _ => wr .i64 (-1 - (j : Int)), fun x hx => ?_, by simp [eqArr, fset, List.range, List.range.loop]⟩
  rw [Nat.zero_add, Int.toNat_natCast]
  have e0 := h.elem (i := i) (by rw [List.length_replicate]; exact hi) 0 (by simp [cG])
  have e1 := h.elem (i := i) (by rw [List.length_replicate]; exact hi) 1 (by simp [cG])
  simp only [List.getElem_replicate] at e0 e1
  match x, hx with
  | 0, _ => exact e0
  | 1, _ => exact e1
set_option maxRecDepth 20000 in
theorem t8 {N k b1 b3 : Nat} {s1 : Sl} {xs : List (List (Int × Int))} {gg : List Sl} (C : LotC cG N w s1 xs gg) (hx : xs.length = 2) (hk : ∀ l ∈ xs, l.length = k) (hkk : k ≤ 1000000) (hN : ∀ x ∈ [b1, b3], x < N) (hwN : N ≤ w.heap.size)
    (hR : ∀ w1, Upd (gg.flatMap Sl.blk) [] w w1 → ∀ b w2, Upd [] [b] w1 w2 → w2.heap[b]? = some (.cells (SV.cells (.struct [.slice ⟨none, 0, 0⟩, .slice ⟨none, 0, 0⟩, .slice ⟨none, 0, 0⟩, .slice ⟨none, 0, 0⟩])).toArray 62 (0, 0)) → b ∉ [b1, b3] →
      Ret Try.prog 22 [.struct [.ptr p0, .ptr q0], .int .i64 4, .ptr (some ⟨b, 0, none⟩)] w2 fun r w3 => ∃ b4 : Bool, r = .bool b4 ∧ Keeps [b1, b3] w2 w3 ∧ Br b4 (Ret Try.prog 22 [.struct [.ptr p0, .ptr q0], .int .i64 2, .ptr (some ⟨b, 0, none⟩)] w3 fun r w4 => ∃ b5 : Bool, r = .bool b5 ∧ Keeps [b1, b3] w3 w4 ∧ Br b5 (Ret Try.prog 22 [.struct [.ptr p0, .ptr q0], .int .i64 3, .ptr (some ⟨b, 0, none⟩)] w4 fun r w5 => ∃ b6 : Bool, r = .bool b6 ∧ Keeps [b1, b3] w4 w5 ∧ Br b6 (Ret Try.prog 22 [.struct [.ptr p1, .ptr q1], .int .i64 4, .ptr (some ⟨b, 0, none⟩)] w5 fun r w6 => ∃ b7 : Bool, r = .bool b7 ∧ Keeps [b1, b3] w5 w6 ∧ R (.bool b7) w6) (R (.bool false) w5)) (R (.bool false) w4)) (R (.bool false) w3)) :
    tail8 w s1 b1 b3 p0 q0 p1 q1 R := by
  unfold tail8
  have hgl := C.len
  have hsl := C.row.len
  have bin : ∀ {i : Nat} (hi : i < gg.length) {x : Nat}, x ∈ (gg[i]).blk → x ∈ gg.flatMap Sl.blk := fun {i} hi {x} hx => List.mem_flatMap.2 ⟨_, List.getElem_mem hi, hx⟩
  -- 1. the holes that were told are written over
  refine ⟨fun i w' => ∃ (t : Nat) (ys : List (List (Int × Int))), i = t ∧ t ≤ 2 ∧ Upd (gg.flatMap Sl.blk) [] w w' ∧ LotC cG N w' s1 ys gg ∧ (∀ l ∈ ys, l.length = k) ∧ ∀ j (hj : j < ys.length), j < t → ys[j] = List.replicate k (mk8 j), fun i _ => (2 - i).toNat, ⟨0, xs, rfl, by omega, (Upd.refl w).wide (by simp), C, hk, fun j hj h => by omega⟩, ?_⟩
  rintro i w1 ⟨t, ys, rfl, ht, u1, C1, hk1, hm1⟩
  have hyl : ys.length = 2 := by have := C1.len; omega
  have rowC : ∀ {w' : World} {zs : List (List (Int × Int))}, LotC cG N w' s1 zs gg → ∀ i (hi : i < gg.length), w'.cell? (s1.at 1 (Int.toNat (i : Int))) = some (gg[i]).val ∧ s1.ptr.isSome = true := fun C' i hi => by
    refine ⟨slAt C'.row i (List.getElem?_eq_getElem hi), C'.row.isSome (by decide) (by omega)⟩
  refine brd (fun hlt => ?_) (fun hge => ?_)
  · have ht2 : t < gg.length := by omega
    have hty : t < ys.length := by omega
    refine ⟨fun j w' => ∃ (q : Nat) (zs : List (List (Int × Int))), j = q ∧ q ≤ k ∧ Upd (gg.flatMap Sl.blk) [] w w' ∧ LotC cG N w' s1 zs gg ∧ (∀ l ∈ zs, l.length = k) ∧ (∀ j (hj : j < zs.length), j < t → zs[j] = List.replicate k (mk8 j)) ∧ ∀ (hj : t < zs.length), (zs[t]).take q = List.replicate q (mk8 t), fun j _ => (k - j).toNat, ⟨0, ys, rfl, by omega, u1, C1, hk1, hm1, fun hj => by simp⟩, ?_⟩
    rintro j w2 ⟨q, zs, rfl, hq, u2, C2, hk2, hm2, hp2⟩
    have hzl : zs.length = 2 := by have := C2.len; omega
    have htz : t < zs.length := by omega
    obtain ⟨c1, c2⟩ := rowC C2 t ht2
    have htk : (zs[t]).length = k := hk2 _ (List.getElem_mem htz)
    have hgk : (gg[t]).len = k := by rw [(C2.each t htz).len, htk]
    refine needIx (by omega) (by omega) c2 ⟨_, c1, brd (fun hlt2 => ?_) (fun hge2 => ?_)⟩
    · refine needIx (by omega) (by omega) c2 ⟨_, c1, needIx (by omega) (by omega) ((C2.each t htz).isSome (by decide) (by omega)) ?_⟩
      rw [Int.toNat_natCast]
      refine LotC.setB (y := mk8 t) C2 (by decide) htz ht2 (by omega) rfl (fun x hx hm => by have := ((C2.owns _ (List.getElem_mem ht2)).blk x hx).1; have := hN x hm; omega) fun w3 C3 u3 => ?_
      (repeat refine And.intro rfl ?_)
      refine ⟨⟨q + 1, _, wr_succ (by omega), by omega, u2.step u3 (fun x hx => .inr (bin ht2 hx)), C3, fun l hl => ?_, fun j hj hjt => ?_, fun hj => ?_⟩, by rw [wr_succ (by omega)]; (try dsimp only); omega⟩
      · rcases List.mem_or_eq_of_mem_set hl with h | rfl
        · exact hk2 l h
        · rw [List.length_set]; exact htk
      · rw [List.getElem_set_ne (by omega)]
        exact hm2 j (by simpa using hj) hjt
      · rw [List.getElem_set_self, List.take_add_one, List.getElem?_set_self (by omega), List.take_set_of_le (Nat.le_refl _), hp2 htz, List.replicate_succ']
        rfl
    · have hqk : q = k := by omega
      subst hqk
      (repeat refine And.intro rfl ?_)
      refine ⟨⟨t + 1, zs, wr_succ (by omega), by omega, u2, C2, hk2, fun j hj hjt => ?_⟩, by rw [wr_succ (by omega)]; (try dsimp only); omega⟩
      by_cases e : j = t
      · subst e
        have := hp2 hj
        rwa [List.take_of_length_le (by have := hk2 _ (List.getElem_mem hj); omega)] at this
      · exact hm2 j hj (by omega)
  have : t = 2 := by omega
  subst this
  have hm : ∀ j (hj : j < ys.length), ys[j] = List.replicate k (mk8 j) := fun j hj => hm1 j hj (by omega)
  clear hm1 hge ht
  have each : ∀ j (hj : j < gg.length), Sees cG w1 gg[j] (List.replicate k (mk8 j)) := fun j hj => by
    have := C1.each j (by omega)
    rwa [hm j (by omega)] at this
  have gl : ∀ j (hj : j < gg.length), (gg[j]).len = k := fun j hj => by rw [(each j hj).len, List.length_replicate]
  have z1 := u1.size
  have gidx : ∀ {i j : Nat} (hi : i < gg.length) (hj : j < gg.length), i ≠ j → ∀ x ∈ (gg[i]).blk, x ∉ (gg[j]).blk := fun hi hj hne => C1.index _ _ hi hj hne
  have gown : ∀ j (hj : j < gg.length), ∀ x ∈ (gg[j]).blk, N ≤ x ∧ x < w1.heap.size := fun j hj x hx => (C1.owns _ (List.getElem_mem hj)).blk x hx
  have goff : ∀ j (hj : j < gg.length), ∀ x ∈ (gg[j]).blk, x ∉ s1.blk := fun j hj => C1.off _ (List.getElem_mem hj)
  have sown := C1.own.blk
  have srow := C1.row
  have gos : ∀ j (hj : j < gg.length), Own N 2 w1 gg[j] := fun j hj => C1.owns _ (List.getElem_mem hj)
  clear C1
  -- 2. more marks behind each
  refine ⟨fun s i w' => ∃ (t : Nat) (gl' : List Sl), i = t ∧ t ≤ 2 ∧ gl'.length = t ∧ Upd (gg.flatMap Sl.blk) [] w w' ∧ w1.heap.size ≤ w'.heap.size ∧ Sees cSl w' s1 gg ∧ Sees cSl w' s gl' ∧ Own w1.heap.size 1 w' s ∧
    (∀ j (hj : j < gg.length), Sees cG w' gg[j] (List.replicate k (mk8 j)) ∧ (t ≤ j → Own N 2 w' gg[j])) ∧
    (∀ j (hj : j < gl'.length) (hg : j < gg.length), Sees cG w' gl'[j] (List.replicate (k + (k + 70)) (mk8 j)) ∧ ∀ x ∈ (gl'[j]).blk, x ∉ s.blk ∧ x < w'.heap.size ∧ (x ∈ (gg[j]).blk ∨ w1.heap.size ≤ x)), fun _ i _ => (2 - i).toNat,
    ⟨0, [], rfl, by omega, rfl, u1, Nat.le_refl _, srow, Sees.nil _ _ _ _, Own.none _ _ _, fun j hj => ⟨each j hj, fun _ => gos j hj⟩, fun j hj => by simp at hj⟩, ?_⟩
  rintro s i w2 ⟨t, gl', rfl, ht, hgl', u2, z2, r2, hs2, os2, e2, l2⟩
  have rowS : ∀ {w' : World}, Sees cSl w' s1 gg → ∀ i (hi : i < gg.length), w'.cell? (s1.at 1 (Int.toNat (i : Int))) = some (gg[i]).val ∧ s1.ptr.isSome = true := fun r i hi =>
    ⟨slAt r i (List.getElem?_eq_getElem hi), r.isSome (by decide) (by omega)⟩
  refine brd (fun hlt => ?_) (fun hge => ?_)
  · have ht2 : t < gg.length := by omega
    obtain ⟨c1, c2⟩ := rowS r2 t ht2
    refine needIx (by omega) (by omega) c2 ⟨_, c1, ?_⟩
    refine ⟨fun g j w' => ∃ q : Nat, j = q ∧ q ≤ k + 70 ∧ Upd (gg.flatMap Sl.blk) [] w w' ∧ w2.heap.size ≤ w'.heap.size ∧ Sees cSl w' s1 gg ∧ Sees cSl w' s gl' ∧ Own w1.heap.size 1 w' s ∧
      (∀ j (hj : j < gg.length), Sees cG w' gg[j] (List.replicate k (mk8 j)) ∧ (t < j → Own N 2 w' gg[j])) ∧
      (∀ j (hj : j < gl'.length) (hg : j < gg.length), Sees cG w' gl'[j] (List.replicate (k + (k + 70)) (mk8 j))) ∧
      Sees cG w' g (List.replicate (k + q) (mk8 t)) ∧ Own N 2 w' g ∧ (g.ptr = (gg[t]).ptr ∨ ∀ x ∈ (gg[t]).blk, x ∉ g.blk) ∧ ∀ x ∈ g.blk, x ∈ (gg[t]).blk ∨ w2.heap.size ≤ x, fun _ j _ => (k + 70 - j).toNat,
      ⟨0, rfl, by omega, u2, Nat.le_refl _, r2, hs2, os2, fun j hj => ⟨(e2 j hj).1, fun h => (e2 j hj).2 (by omega)⟩, fun j hj hg => (l2 j hj hg).1, (e2 t ht2).1, (e2 t ht2).2 (Nat.le_refl _), .inl rfl, fun x hx => .inl hx⟩, ?_⟩
    rintro g j w3 ⟨q, rfl, hq, u3, z3, r3, hs3, os3, e3, l3, hg3, og3, pg3, bg3⟩
    obtain ⟨d1, d2⟩ := rowS r3 0 (by omega)
    have e70 : wr .i64 (((gg[0]'(by omega)).len : Int) + 70) = k + 70 := by rw [gl 0 (by omega), wr_i64 (by omega) (by omega)]
    have gN : ∀ x ∈ g.blk, N ≤ x ∧ x < w3.heap.size := og3.blk
    have sN := os2.blk
    refine need (by rw [d2]; simp; omega) ⟨gg[0]'(by omega), by simpa using d1, ?_⟩
    rw [e70]
    refine brd (fun hlt2 => ?_) (fun hge2 => ?_)
    · intro b w4 u4 hr4
      have z4 := u4.size
      have hb4 := (e3 t ht2).1.old u4
      have gt := gl t ht2
      have hb4' : Sees cG w4 gg[t] (List.replicate (gg[t]).len (mk8 t)) := by rw [gt]; exact hb4
      refine app_mkB (e := 29) (by_ := 16) hb4' (hg3.old u4) (og3.old u4) (by omega) pg3 (sees_row hr4 [mk8 t] rfl rfl) (by have := (gos t ht2); have := C.own; omega) (fun x hx => by have := gown t ht2 x hx; omega) (fun x hx hm => by have := gN x hx; have := hN x hm; omega) (by decide) (by omega) fun r w5 hr5 or5 hb5 pr5 u5 n5 => ?_
      have z5 := u5.size
      have gfm : ∀ x ∈ g.blk, w.heap.size ≤ x ∨ x ∈ gg.flatMap Sl.blk := fun x hx => by
        rcases bg3 x hx with h | h
        · exact .inr (bin ht2 h)
        · exact .inl (by omega)
      have off5 : ∀ {x : Nat}, x < w2.heap.size → x ∉ (gg[t]).blk → x ∉ g.blk := fun h1 h2 hm => by
        rcases bg3 _ hm with h | h
        · exact h2 h
        · omega
      (repeat refine And.intro rfl ?_)
      refine ⟨⟨q + 1, wr_succ (by omega), by omega, (u3.step u4 (by simp)).step u5 gfm, by omega, (r3.old u4).upd u5 (fun x hx => off5 (by have := sown x hx; omega) (fun hm => goff t ht2 x hm hx)), (hs3.old u4).upd u5 (fun x hx => off5 (sN x hx).2 (fun hm => by have := gown t ht2 x hm; have := (sN x hx).1; omega)), (os3.old u4).upd u5 (fun x hx => off5 (sN x hx).2 (fun hm => by have := gown t ht2 x hm; have := (sN x hx).1; omega)), fun j hj => ?_, fun j hj hg => ?_, by rw [Nat.add_assoc] at hr5; exact hr5, or5, pr5, fun x hx => ?_⟩, by rw [wr_succ (by omega)]; (try dsimp only); omega⟩
      · by_cases e : j = t
        · subst e
          exact ⟨by rw [gt] at hb5; exact hb5, fun h => by omega⟩
        · have off : ∀ x ∈ (gg[j]).blk, x ∉ g.blk := fun x hx => off5 (by have := gown j hj x hx; omega) (gidx hj ht2 e x hx)
          exact ⟨((e3 j hj).1.old u4).upd u5 off, fun h => (((e3 j hj).2 h).old u4).upd u5 off⟩
      · have hjt : j < t := by omega
        refine ((l3 j hj hg).old u4).upd u5 (fun x hx => ?_)
        obtain ⟨_, h1⟩ := l2 j hj hg
        obtain ⟨h2, h3, h4⟩ := h1 x hx
        refine off5 h3 (fun hm => ?_)
        rcases h4 with h4 | h4
        · exact gidx hg ht2 (by omega) x h4 hm
        · have := gown t ht2 x hm; omega
      · rcases n5 x hx with h | h
        · exact bg3 x h
        · exact .inr (by omega)
    · have hqk : q = k + 70 := by omega
      subst hqk
      intro b w4 u4 hr4
      have z4 := u4.size
      refine append_own (c := cSl) (new := [g]) (hs3.old u4) (os3.old u4) (sees_row hr4 [g] rfl rfl) (by omega) (fun x hx hm => by have := (sN x hx).1; have := hN x hm; have := C.own; omega) (by decide) (by simp; omega) fun r w5 hr5 or5 u5 n5 => ?_
      have z5 := u5.size
      have gs5 : ∀ j (hj : j < gg.length), ∀ x ∈ (gg[j]).blk, x ∉ s.blk := fun j hj x hx hm => by have := gown j hj x hx; have := (sN x hm).1; omega
      have gS : ∀ x ∈ g.blk, x ∉ s.blk := fun x hx hm => by
        rcases bg3 x hx with h | h
        · exact gs5 t ht2 x h hm
        · have := (sN x hm).2; omega
      (repeat refine And.intro rfl ?_)
      refine ⟨⟨t + 1, gl' ++ [g], wr_succ (by omega), by omega, by simp [hgl'], (u3.step u4 (by simp)).step u5 (fun x hx => .inl (by have := (sN x hx).1; omega)), by omega, (r3.old u4).upd u5 (fun x hx hm => by have := sown x hx; have := (sN x hm).1; omega), hr5, or5, fun j hj => ⟨((e3 j hj).1.old u4).upd u5 (gs5 j hj), fun h => (((e3 j hj).2 (by omega)).old u4).upd u5 (gs5 j hj)⟩, fun j hj hg => ?_⟩, by rw [wr_succ (by omega)]; (try dsimp only); omega⟩
      by_cases e : j < gl'.length
      · rw [List.getElem_append_left e]
        obtain ⟨_, h1⟩ := l2 j e hg
        refine ⟨((l3 j e hg).old u4).upd u5 (fun x hx => (h1 x hx).1), fun x hx => ⟨fun hm => ?_, by have := (h1 x hx).2.1; omega, (h1 x hx).2.2⟩⟩
        rcases n5 x hm with h | h
        · exact (h1 x hx).1 h
        · have := (h1 x hx).2.1; omega
      · have hje : j = t := by simp at hj; omega
        subst hje
        have e1 : (gl' ++ [g])[j]'hj = g := by rw [List.getElem_append_right (by omega)]; simp
        rw [e1]
        refine ⟨(hg3.old u4).upd u5 gS, fun x hx => ⟨fun hm => ?_, by have := gN x hx; omega, ?_⟩⟩
        · rcases n5 x hm with h | h
          · exact gS x hx h
          · have := gN x hx; omega
        · rcases bg3 x hx with h | h
          · exact .inl h
          · exact .inr (by omega)
  have : t = 2 := by omega
  subst this
  clear hge ht
  -- 3. all is looked at
  have hss := hs2.len
  refine ⟨fun i w' => w' = w2 ∧ ∃ t : Nat, i = t ∧ t ≤ 2, fun i _ => (2 - i).toNat, ⟨rfl, 0, rfl, by omega⟩, ?_⟩
  rintro i w3 ⟨rfl, t, rfl, ht⟩
  refine brd (fun hlt => ?_) (fun hge => ?_)
  · have ht2 : t < gl'.length := by omega
    have htg : t < gg.length := by omega
    refine ⟨fun j w' => w' = w3 ∧ ∃ q : Nat, j = q ∧ q ≤ k + (k + 70), fun j _ => (k + (k + 70) - j).toNat, ⟨rfl, 0, rfl, by omega⟩, ?_⟩
    rintro j w4 ⟨rfl, q, rfl, hq⟩
    have c1 := slAt hs2 t (List.getElem?_eq_getElem ht2)
    have c2 := hs2.isSome (by decide) (by omega)
    obtain ⟨l3, _⟩ := l2 t ht2 htg
    have ll := l3.len
    rw [List.length_replicate] at ll
    obtain ⟨d1, d2⟩ := rowS r2 t htg
    have gt := gl t htg
    refine needIx (by omega) (by omega) c2 ⟨_, c1, brd (fun hlt2 => ?_) (fun hge2 => ?_)⟩
    · intro J hJ
      have next : J w4 := by
        refine hJ _ ?_
        (repeat refine And.intro rfl ?_)
        exact ⟨⟨rfl, q + 1, wr_succ (by omega), by omega⟩, by rw [wr_succ (by omega)]; (try dsimp only); omega⟩
      clear hJ
      obtain ⟨f, f1, f2⟩ := mk8_ok l3 rfl (show q < k + (k + 70) by omega)
      refine needIx (by omega) (by omega) c2 ⟨_, c1, needIx (by omega) (by omega) (l3.isSome (by decide) (by rw [List.length_replicate]; omega)) ⟨f, f1, brf (by rw [f2]; rfl) ?_⟩⟩
      refine needIx (by omega) (by omega) d2 ⟨_, d1, brd (fun hlt3 => ?_) (fun hge3 => ?_)⟩
      · obtain ⟨f', f1', f2'⟩ := mk8_ok (e2 t htg).1 rfl (show q < k by omega)
        refine needIx (by omega) (by omega) d2 ⟨_, d1, needIx (by omega) (by omega) ((e2 t htg).1.isSome (by decide) (by rw [List.length_replicate]; omega)) ⟨f', f1', brf (by rw [f2']; rfl) ?_⟩⟩
        (repeat refine And.intro rfl ?_)
        exact next
      · (repeat refine And.intro rfl ?_)
        exact next
    · (repeat refine And.intro rfl ?_)
      exact ⟨⟨rfl, t + 1, wr_succ (by omega), by omega⟩, by rw [wr_succ (by omega)]; (try dsimp only); omega⟩
  · intro b w4 u4 hr4 off4
    exact hR w3 u2 b w4 u4 hr4 off4
end
end Go.Vc.S11
