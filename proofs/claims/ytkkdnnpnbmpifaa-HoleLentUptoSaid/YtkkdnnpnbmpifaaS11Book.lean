import Derived.Test.YtkkdnnpnbmpifaaS11TxtK
import Derived.Test.YtkkdnnpnbmpifaaS11L4
import Derived.Test.YtkkdnnpnbmpifaaRowsA
open Go Go.Vc Go.Proofs
set_option linter.unusedVariables false
set_option linter.unusedSimpArgs false
set_option autoImplicit false
namespace Go.Vc.S11
/-- a Book: lists that were handed out, each full of one mark -/
structure Bk (N : Nat) (w : World) (bk n : Nat) (LB LG MB MG : Sl) (ct : List Nat) : Prop where
  rows : Rows N w bk [LB, LG, MB, MG]
  bs : ∃ gb mb, Sees cSl w LB gb ∧ SeesB w MB mb ∧ gb.length = mb.length ∧ gb.length ≤ 4 * n ∧ (∀ (i : Nat) (g : Sl) (m : Int), gb[i]? = some g → mb[i]? = some m → SeesB w g (List.replicate g.len m)) ∧ ∀ g ∈ gb, g.len ≤ 2000000 ∧ ∀ x ∈ g.blk, x ∈ ct
  gs : ∃ gg mg, Sees cSl w LG gg ∧ Sees cI64 w MG mg ∧ gg.length = mg.length ∧ gg.length ≤ 4 * n ∧ (∀ (i : Nat) (g : Sl) (m : Int), gg[i]? = some g → mg[i]? = some m → Sees cG w g (List.replicate g.len (m, m))) ∧ ∀ g ∈ gg, g.len ≤ 2000000 ∧ ∀ x ∈ g.blk, x ∈ ct
  ct : ∀ x ∈ ct, N ≤ x ∧ x < w.heap.size ∧ x ∉ rowsB bk [LB, LG, MB, MG]
section
variable {N bk n : Nat} {w w1 : World} {LB LG MB MG : Sl} {ct : List Nat} {R : SV → World → Prop}
theorem Bk.upd {ms ns : List Nat} (B : Bk N w bk n LB LG MB MG ct) (u : Upd ms ns w w1) (h1 : ∀ x ∈ rowsB bk [LB, LG, MB, MG], x ∉ ms) (h2 : ∀ x ∈ ct, x ∉ ms) : Bk N w1 bk n LB LG MB MG ct := by
  have hr := fun s hs x hx => h1 x (rowsB_mem.2 (.inr ⟨s, hs, hx⟩))
  obtain ⟨gb, mb, b1, b2, b3, b4, b5, b6⟩ := B.bs
  obtain ⟨gg, mg, g1, g2, g3, g4, g5, g6⟩ := B.gs
  exact ⟨B.rows.upd u h1, ⟨gb, mb, b1.upd u (hr _ (by simp)), b2.upd u (hr _ (by simp)), b3, b4, fun i g m e1 e2 => (b5 i g m e1 e2).upd u (fun x hx => h2 x ((b6 g (List.mem_of_getElem? e1)).2 x hx)), b6⟩,
    ⟨gg, mg, g1.upd u (hr _ (by simp)), g2.upd u (hr _ (by simp)), g3, g4, fun i g m e1 e2 => (g5 i g m e1 e2).upd u (fun x hx => h2 x ((g6 g (List.mem_of_getElem? e1)).2 x hx)), g6⟩,
    fun x hx => ⟨(B.ct x hx).1, by have := (B.ct x hx).2.1; have := u.size; omega, (B.ct x hx).2.2⟩⟩
theorem Bk.old {ns : List Nat} (B : Bk N w bk n LB LG MB MG ct) (u : Upd [] ns w w1) : Bk N w1 bk n LB LG MB MG ct := B.upd u (by simp) (by simp)
/-- .. its blocks alone: hd: its own, ct: the lists' -/
def BookAt (N : Nat) (w : World) (bk n : Nat) (hd ct : List Nat) : Prop := ∃ LB LG MB MG, Bk N w bk n LB LG MB MG ct ∧ hd = rowsB bk [LB, LG, MB, MG]
theorem BookAt.upd {hd ms ns : List Nat} (B : BookAt N w bk n hd ct) (u : Upd ms ns w w1) (h1 : ∀ x ∈ hd, x ∉ ms) (h2 : ∀ x ∈ ct, x ∉ ms) : BookAt N w1 bk n hd ct := by
  obtain ⟨LB, LG, MB, MG, B, rfl⟩ := B
  exact ⟨LB, LG, MB, MG, B.upd u h1 h2, rfl⟩
theorem BookAt.old {hd ns : List Nat} (B : BookAt N w bk n hd ct) (u : Upd [] ns w w1) : BookAt N w1 bk n hd ct := B.upd u (by simp) (by simp)
theorem BookAt.lt {hd : List Nat} (B : BookAt N w bk n hd ct) : (∀ x ∈ hd, N ≤ x ∧ x < w.heap.size) ∧ ∀ x ∈ ct, N ≤ x ∧ x < w.heap.size ∧ x ∉ hd := by
  obtain ⟨LB, LG, MB, MG, B, rfl⟩ := B
  exact ⟨B.rows.lt, B.ct⟩
theorem getElem?_app4 {α : Type} {l : List α} {a b c d : α} {i : Nat} {x : α} (h : (l ++ [a, b, c, d])[i]? = some x) : l[i]? = some x ∨ (l.length ≤ i ∧ x ∈ [a, b, c, d]) := by
  by_cases q : i < l.length
  · rw [List.getElem?_append_left q] at h; exact .inl h
  · rw [List.getElem?_append_right (by omega)] at h
    exact .inr ⟨by omega, List.mem_of_getElem? h⟩
set_option maxRecDepth 20000 in
theorem c40 {hd : List Nat} {l : Sl} {xs : List Int} (B : BookAt N w bk n hd ct) (hl : SeesB w l xs) (ho : Own N 1 w l) (hdis : ∀ x ∈ l.blk, x ∉ hd ∧ x ∉ ct) (hlen : xs.length ≤ 1000000) (hn : n ≤ 1000000)
    (k : ∀ hd' ct' w1, Upd (hd ++ l.blk) [] w w1 → BookAt N w1 bk (n + 1) hd' ct' → (∀ x ∈ hd', x ∈ hd ∨ w.heap.size ≤ x) → (∀ x ∈ ct', x ∈ ct ∨ x ∈ l.blk ∨ w.heap.size ≤ x) → R (.tuple []) w1) : Ret Try.prog 40 [.ptr (some ⟨bk, 0, none⟩), .slice l] w R := by
  obtain ⟨LB, LG, MB, MG, B, rfl⟩ := B
  refine f40_of _ _ _ _ ?_
  unfold vc40
  have hll := hl.len
  dsimp only [deref]
  have b0 : ∀ w', Bk N w' bk n LB LG MB MG ct → w'.cell? ⟨bk, 0, none⟩ = some LB.val := fun w' B' => by
    have := B'.rows.get 0 (s := LB) rfl
    rwa [add_zero] at this
  refine ⟨LB, b0 w B, ?_⟩
  have lt := B.rows.lt
  have rin : ∀ {x : Nat} {s : Sl}, s ∈ [LB, LG, MB, MG] → x ∈ s.blk → x ∈ rowsB bk [LB, LG, MB, MG] := fun hs hx => rowsB_mem.2 (.inr ⟨_, hs, hx⟩)
  have bkin : bk ∈ rowsB bk [LB, LG, MB, MG] := rowsB_mem.2 (.inl rfl)
  refine fill_loop hl ho (by omega) rfl (by simp) (fun I M n w w' a b => ⟨a, b⟩) fun w1 u1 h1 o1 => ?_
  rw [← hll] at h1
  have z1 := u1.size
  have B1 := B.upd u1 (fun x hx hm => (hdis x hm).1 hx) (fun x hx hm => (hdis x hm).2 hx)
  have md := Md.start h1 o1 B1.rows.base.2
  have hbk := lt bk bkin
  have kb : ∀ x ∈ [bk], x < w1.heap.size ∧ x ∉ l.blk := fun x hx => by
    rw [List.mem_singleton] at hx
    subst hx
    exact ⟨by omega, fun hm => (hdis _ hm).1 bkin⟩
  refine ⟨[bk], fun b hb => (kb b hb).1, by simp, LB, b0 w1 B1, ?_⟩
  have fin : ∀ cs r r1 r2 w', Md cU8 N w1 w' l (wr .u8 (wr .i64 (Int.tmod (LB.len : Int) 200 + 40))) 3 cs [r, r1, r2] → tail40 w' l r r1 r2 [bk] w1 LB (some ⟨bk, 0, none⟩) LB R := by
    intro cs r r1 r2 w' md
    unfold tail40
    intro z0 w2 u2 hr2
    have md2 := md.old u2
    refine ⟨md2.kept kb, ?_⟩
    generalize wr .u8 (wr .i64 (Int.tmod (LB.len : Int) 200 + 40)) = m at *
    clear md
    have z2 := md2.u.size
    have B2 := B1.upd md2.u (fun x hx hm => (hdis x hm).1 hx) (fun x hx hm => (hdis x hm).2 hx)
    obtain ⟨gb, mb, b1, b2, b3, b4, b5, b6⟩ := B2.bs
    obtain ⟨gg, mg, g1, g2, g3, g4, g5, g6⟩ := B2.gs
    dsimp only [deref]
    have ap := B2.rows.app (c := cSl) (i := 0) (x := ⟨some ⟨z0, 0, none⟩, 4, 4⟩) (new := [l, r, r1, r2]) (e := 34) (by_ := 24) (bs := []) rfl rfl b1 (sees_row hr2 _ rfl rfl) (by decide) (by simp; omega) (by simp) (F := fun w3 => ∃ z7 : Sl, w3.cell? ((⟨bk, 0, none⟩ : Addr).add 2) = some z7.val ∧ ∀ (z8 : Nat) (z9 : World), Upd [] [z8] w3 z9 → z9.heap[z8]? = some (.cells (SV.cells (.struct [.int .u8 m, .int .u8 m, .int .u8 m, .int .u8 m])).toArray 5 (0, 0)) → Append 5 1 1 z7 ⟨some ⟨z8, 0, none⟩, 4, 4⟩ [] z9 fun z10 z11 => Store z11 ((⟨bk, 0, none⟩ : Addr).add 2) (SV.cells (.slice z10)) [] fun z13 => R (.tuple []) z13) ?_
    · rw [add_zero] at ap
      exact ap
    intro L' w3 R3 hL nL u3
    refine ⟨MB, R3.get 2 rfl, fun z8 w4 u4 hr4 => ?_⟩
    have R4 := R3.old u4
    have z3 := u3.size; have z4 := u4.size
    have mb4 := (b2.upd u3 (B2.rows.else_ (i := 0) (j := 2) rfl rfl (by decide))).old u4
    refine R4.app (c := cU8) (i := 2) (new := [m, m, m, m]) rfl rfl mb4 (sees_row hr4 _ rfl rfl) (by decide) (by simp; omega) (by simp) fun M' w5 R5 hM nM u5 => ?_
    have z5 := u5.size
    have q3 : ∀ x ∈ bk :: LB.blk, x ∈ rowsB bk [LB, LG, MB, MG] := fun x hx => by
      rcases List.mem_cons.1 hx with rfl | q
      · exact bkin
      · exact rin (by simp) q
    have q5 : ∀ x ∈ bk :: MB.blk, x ∈ rowsB bk [LB, LG, MB, MG] := fun x hx => by
      rcases List.mem_cons.1 hx with rfl | q
      · exact bkin
      · exact rin (by simp) q
    -- content is not written
    have keep : ∀ {α : Type} {c : Cod α} {s : Sl} {xs : List α}, Sees c w2 s xs → (∀ x ∈ s.blk, x ∉ rowsB bk [LB, LG, MB, MG]) → Sees c w5 s xs := fun h hs => ((h.upd u3 (fun x hx hm => hs x hx (q3 x hm))).old u4).upd u5 (fun x hx hm => hs x hx (q5 x hm))
    have mg : ∀ g ∈ [l, r, r1, r2], SeesB w2 g (List.replicate g.len m) ∧ (∀ x ∈ g.blk, x ∈ l.blk ∨ (w1.heap.size ≤ x ∧ x < w2.heap.size)) ∧ g.len ≤ l.len + 3 := fun g hg => by
      rcases List.mem_cons.1 hg with rfl | hg
      · exact ⟨md2.sees, fun x hx => .inl hx, by omega⟩
      · have := md2.ma g hg
        exact ⟨this.1, this.2.2.1, this.2.2.2⟩
    have moff : ∀ g ∈ [l, r, r1, r2], ∀ x ∈ g.blk, N ≤ x ∧ x < w2.heap.size ∧ x ∉ rowsB bk [LB, LG, MB, MG] := fun g hg x hx => by
      rcases (mg g hg).2.1 x hx with q | q
      · have := o1.blk x q
        exact ⟨this.1, by omega, (hdis x q).1⟩
      · have := B1.rows.base.2
        exact ⟨by omega, q.2, fun hm => by have := lt x hm; omega⟩
    have nw : ∀ x ∈ rowsB bk [L', LG, M', MG], x ∈ rowsB bk [LB, LG, MB, MG] ∨ w2.heap.size ≤ x := fun x hx => by
      rcases rowsB_set (ss := [L', LG, MB, MG]) (i := 2) (s := MB) (r := M') (n := w2.heap.size) rfl (fun x hx => by
        rcases nM x hx with q | q
        · exact .inl q
        · exact .inr (by omega)) hx with q | q
      · exact rowsB_set (ss := [LB, LG, MB, MG]) (i := 0) (s := LB) (r := L') rfl nL q
      · exact .inr q
    refine k (rowsB bk [L', LG, M', MG]) (ct ++ (l.blk ++ (r.blk ++ (r1.blk ++ r2.blk)))) w5 ?_ ⟨L', LG, M', MG, ⟨R5, ⟨gb ++ [l, r, r1, r2], mb ++ [m, m, m, m], (hL.old u4).upd u5 (R4.else_ (i := 2) (j := 0) rfl rfl (by decide)), hM, by simp [b3], by simp; omega, fun i g m' e1 e2 => ?_, fun g hg => ⟨?_, fun x hx => ?_⟩⟩, ⟨gg, _, ((g1.upd u3 (B2.rows.else_ (i := 0) (j := 1) rfl rfl (by decide))).old u4).upd u5 (R4.else_ (i := 2) (j := 1) rfl rfl (by decide)), ((g2.upd u3 (B2.rows.else_ (i := 0) (j := 3) rfl rfl (by decide))).old u4).upd u5 (R4.else_ (i := 2) (j := 3) rfl rfl (by decide)), g3, by omega, fun i g m' e1 e2 => keep (g5 i g m' e1 e2) (fun x hx => (B2.ct x ((g6 g (List.mem_of_getElem? e1)).2 x hx)).2.2), fun g hg => ⟨(g6 g hg).1, fun x hx => List.mem_append_left _ ((g6 g hg).2 x hx)⟩⟩, fun x hx => ?_⟩, rfl⟩ (fun x hx => ?_) (fun x hx => ?_)
    · exact ((((u1.wide (m' := rowsB bk [LB, LG, MB, MG] ++ l.blk) (fun x hx => List.mem_append_right _ hx)).step md2.u (fun x hx => .inr (by simp [hx]))).step u3 (fun x hx => .inr (List.mem_append_left _ (q3 x hx)))).step u4 (by simp)).step u5 (fun x hx => .inr (List.mem_append_left _ (q5 x hx)))
    · rcases getElem?_app4 e1 with f1 | ⟨f1, f1'⟩
      · rcases getElem?_app4 e2 with f2 | ⟨f2, f2'⟩
        · exact keep (b5 i g m' f1 f2) (fun x hx => (B2.ct x ((b6 g (List.mem_of_getElem? f1)).2 x hx)).2.2)
        · have := (List.getElem?_eq_some_iff.1 f1).1; omega
      · rcases getElem?_app4 e2 with f2 | ⟨f2, f2'⟩
        · have := (List.getElem?_eq_some_iff.1 f2).1; omega
        · have : m' = m := by simpa using f2'
          subst this
          exact keep (mg g f1').1 (fun x hx => (moff g f1' x hx).2.2)
    · rcases List.mem_append.1 hg with q | q
      · exact (b6 g q).1
      · have := (mg g q).2.2
        omega
    · rcases List.mem_append.1 hg with q | q
      · exact List.mem_append_left _ ((b6 g q).2 x hx)
      · refine List.mem_append_right _ ?_
        simp only [List.mem_cons, List.not_mem_nil, or_false] at q
        simp only [List.mem_append]
        rcases q with rfl | rfl | rfl | rfl <;> simp [hx]
    · have key : N ≤ x ∧ x < w2.heap.size ∧ x ∉ rowsB bk [LB, LG, MB, MG] := by
        simp only [List.mem_append] at hx
        rcases hx with q | q | q | q | q
        · exact B2.ct x q
        · exact moff l (by simp) x q
        · exact moff r (by simp) x q
        · exact moff r1 (by simp) x q
        · exact moff r2 (by simp) x q
      refine ⟨key.1, by omega, fun hm => ?_⟩
      rcases nw x hm with q | q
      · exact key.2.2 q
      · omega
    · rcases nw x hx with q | q
      · exact .inl q
      · exact .inr (by omega)
    · have new : ∀ g ∈ [l, r, r1, r2], x ∈ g.blk → x ∈ l.blk ∨ w.heap.size ≤ x := fun g hg hx => by
        rcases (mg g hg).2.1 x hx with q | q
        · exact .inl q
        · exact .inr (by omega)
      simp only [List.mem_append] at hx
      rcases hx with q | q | q | q | q
      · exact .inl q
      · exact .inr (.inl q)
      · exact .inr (new r (by simp) q)
      · exact .inr (new r1 (by simp) q)
      · exact .inr (new r2 (by simp) q)
  repeat' (first
    | exact fin _ _ _ _ _ md
    | refine ⟨md.kept kb, ?_⟩
    | refine md.app (by simp) (by decide) (by decide) (by omega) (by simp) fun r w hr md => ?_
    | (with_reducible refine And.intro ?_ ?_)
    | refine md.comp 1 rfl fun b w md => ?_
    | refine md.comp 2 rfl fun b w md => ?_
    | refine md.comp 3 rfl fun b w md => ?_)
set_option maxRecDepth 20000 in
theorem c36 {hd : List Nat} {l : Sl} {xs : List (Int × Int)} (B : BookAt N w bk n hd ct) (hl : Sees cG w l xs) (ho : Own N 2 w l) (hdis : ∀ x ∈ l.blk, x ∉ hd ∧ x ∉ ct) (hlen : xs.length ≤ 1000000) (hn : n ≤ 1000000)
    (k : ∀ hd' ct' w1, Upd (hd ++ l.blk) [] w w1 → BookAt N w1 bk (n + 1) hd' ct' → (∀ x ∈ hd', x ∈ hd ∨ w.heap.size ≤ x) → (∀ x ∈ ct', x ∈ ct ∨ x ∈ l.blk ∨ w.heap.size ≤ x) → R (.tuple []) w1) : Ret Try.prog 36 [.ptr (some ⟨bk, 0, none⟩), .slice l] w R := by
  obtain ⟨LB, LG, MB, MG, B, rfl⟩ := B
  refine f36_of _ _ _ _ ?_
  unfold vc36
  have hll := hl.len
  dsimp only [deref]
  have b0 : ∀ w', Bk N w' bk n LB LG MB MG ct → w'.cell? ((⟨bk, 0, none⟩ : Addr).add 1) = some LG.val := fun w' B' => B'.rows.get 1 (s := LG) rfl
  refine ⟨LG, b0 w B, ?_⟩
  have lt := B.rows.lt
  have rin : ∀ {x : Nat} {s : Sl}, s ∈ [LB, LG, MB, MG] → x ∈ s.blk → x ∈ rowsB bk [LB, LG, MB, MG] := fun hs hx => rowsB_mem.2 (.inr ⟨_, hs, hx⟩)
  have bkin : bk ∈ rowsB bk [LB, LG, MB, MG] := rowsB_mem.2 (.inl rfl)
  intro b1
  refine ⟨fun i w' => ∃ t : Nat, i = t ∧ t ≤ xs.length ∧ Upd l.blk [] w w' ∧ Sees cG w' l (List.replicate t (wr .i64 (wr .i64 (0 - (LG.len : Int)) - 7), wr .i64 (wr .i64 (0 - (LG.len : Int)) - 7)) ++ xs.drop t) ∧ Own N 2 w' l ∧ (w.heap.size ≤ b1 ∧ b1 < w'.heap.size), fun i _ => (xs.length - i).toNat, ⟨fun w' u' => ⟨0, rfl, by omega, u'.wide (by simp), by simpa using hl.old u', ho.old u', u'.new (by simp)⟩, ?_⟩⟩
  rintro i w1 ⟨t, rfl, ht, u1, h1, o1, hb1⟩
  have hbl : ∀ x ∈ l.blk, x ∉ [b1] := fun x hx hm => by
    rw [List.mem_singleton] at hm
    have := (ho.blk x hx).2
    omega
  refine brd (fun hlt => ?_) (fun hge => ?_)
  · have hlen2 : (List.replicate t (wr .i64 (wr .i64 (0 - (LG.len : Int)) - 7), wr .i64 (wr .i64 (0 - (LG.len : Int)) - 7)) ++ xs.drop t).length = xs.length := by simp; omega
    refine needIx (by omega) (by omega) (h1.isSome (by decide) (by omega)) ?_
    rw [Int.toNat_natCast]
    refine own_set (c := cG) (x := (wr .i64 (wr .i64 (0 - (LG.len : Int)) - 7), wr .i64 (wr .i64 (0 - (LG.len : Int)) - 7))) h1 o1 (by decide) (by omega) rfl hbl fun w2 hs2 o2 u2 => ?_
    have z2 := u2.size
    have e : (List.replicate t (wr .i64 (wr .i64 (0 - (LG.len : Int)) - 7), wr .i64 (wr .i64 (0 - (LG.len : Int)) - 7)) ++ xs.drop t).set t (wr .i64 (wr .i64 (0 - (LG.len : Int)) - 7), wr .i64 (wr .i64 (0 - (LG.len : Int)) - 7)) = List.replicate (t + 1) (wr .i64 (wr .i64 (0 - (LG.len : Int)) - 7), wr .i64 (wr .i64 (0 - (LG.len : Int)) - 7)) ++ xs.drop (t + 1) := by
      rw [List.set_append_right _ _ (by simp), List.length_replicate, Nat.sub_self, List.drop_eq_getElem_cons (show t < xs.length by omega), List.set_cons_zero, List.replicate_succ', List.append_assoc]
      rfl
    rw [e] at hs2
    (repeat refine And.intro rfl ?_)
    exact ⟨⟨t + 1, wr_succ (by omega), by omega, u1.step u2 (fun x hx => .inr hx), hs2, o2, by omega⟩, by rw [wr_succ (by omega)]; (try dsimp only); omega⟩
  have htx : t = xs.length := by omega
  subst htx
  rw [List.drop_length, List.append_nil, ← hll] at h1
  have z1 := u1.size
  have B1 := B.upd u1 (fun x hx hm => (hdis x hm).1 hx) (fun x hx hm => (hdis x hm).2 hx)
  have md := Md.start (c := cG) h1 o1 B1.rows.base.2
  have hbk := lt bk bkin
  have kb : ∀ x ∈ [bk], x < w1.heap.size ∧ x ∉ l.blk := fun x hx => by
    rw [List.mem_singleton] at hx
    subst hx
    exact ⟨by omega, fun hm => (hdis _ hm).1 bkin⟩
  refine ⟨[bk], fun b hb => (kb b hb).1, by rw [add_block]; simp, LG, b0 w1 B1, ?_⟩
  have fin : ∀ cs r r1 r2 w', Md cG N w1 w' l (wr .i64 (wr .i64 (0 - (LG.len : Int)) - 7), wr .i64 (wr .i64 (0 - (LG.len : Int)) - 7)) 3 cs [r, r1, r2] → tail36 w' l r r1 r2 [bk] w1 LG b1 (some ⟨bk, 0, none⟩) LG R := by
    intro cs r r1 r2 w' md
    unfold tail36
    intro z0 w2 u2 hr2
    have md2 := md.old u2
    refine ⟨md2.kept kb, ?_⟩
    generalize wr .i64 (wr .i64 (0 - (LG.len : Int)) - 7) = m at *
    clear md
    have z2 := md2.u.size
    have B2 := B1.upd md2.u (fun x hx hm => (hdis x hm).1 hx) (fun x hx hm => (hdis x hm).2 hx)
    obtain ⟨gb, mb, b1', b2, b3, b4, b5, b6⟩ := B2.bs
    obtain ⟨gg, mg, g1, g2, g3, g4, g5, g6⟩ := B2.gs
    dsimp only [deref]
    have bsn : ∀ {w' : World} {ss : List Sl}, (∀ x ∈ rowsB bk ss, x ∈ rowsB bk [LB, LG, MB, MG] ∨ w2.heap.size ≤ x) → ∀ x ∈ rowsB bk ss, x ∉ [b1] := fun h x hx hm => by
      rw [List.mem_singleton] at hm
      subst hm
      rcases h x hx with q | q
      · have := lt x q; omega
      · omega
    refine B2.rows.app (c := cSl) (i := 1) (x := ⟨some ⟨z0, 0, none⟩, 4, 4⟩) (new := [l, r, r1, r2]) rfl rfl g1 (sees_row hr2 _ rfl rfl) (by decide) (by simp; omega) (bsn (w' := w2) fun x hx => .inl hx) fun L' w3 R3 hL nL u3 => ?_
    refine ⟨MG, R3.get 3 rfl, fun z8 w4 u4 hr4 => ?_⟩
    have R4 := R3.old u4
    have z3 := u3.size; have z4 := u4.size
    have mb4 := (g2.upd u3 (B2.rows.else_ (i := 1) (j := 3) rfl rfl (by decide))).old u4
    refine R4.app (c := cI64) (i := 3) (x := ⟨some ⟨z8, 0, none⟩, 4, 4⟩) (new := [m, m, m, m]) rfl rfl mb4 (sees_row hr4 _ rfl rfl) (by decide) (by simp; omega) (bsn (w' := w4) fun x hx => rowsB_set (ss := [LB, LG, MB, MG]) (i := 1) (s := LG) (r := L') rfl nL hx) fun M' w5 R5 hM nM u5 => ?_
    have z5 := u5.size
    have q3 : ∀ x ∈ bk :: LG.blk, x ∈ rowsB bk [LB, LG, MB, MG] := fun x hx => by
      rcases List.mem_cons.1 hx with rfl | q
      · exact bkin
      · exact rin (by simp) q
    have q5 : ∀ x ∈ bk :: MG.blk, x ∈ rowsB bk [LB, LG, MB, MG] := fun x hx => by
      rcases List.mem_cons.1 hx with rfl | q
      · exact bkin
      · exact rin (by simp) q
    -- content is not written
    have keep : ∀ {α : Type} {c : Cod α} {s : Sl} {xs : List α}, Sees c w2 s xs → (∀ x ∈ s.blk, x ∉ rowsB bk [LB, LG, MB, MG]) → Sees c w5 s xs := fun h hs => ((h.upd u3 (fun x hx hm => hs x hx (q3 x hm))).old u4).upd u5 (fun x hx hm => hs x hx (q5 x hm))
    have mgs : ∀ g ∈ [l, r, r1, r2], Sees cG w2 g (List.replicate g.len (m, m)) ∧ (∀ x ∈ g.blk, x ∈ l.blk ∨ (w1.heap.size ≤ x ∧ x < w2.heap.size)) ∧ g.len ≤ l.len + 3 := fun g hg => by
      rcases List.mem_cons.1 hg with rfl | hg
      · exact ⟨md2.sees, fun x hx => .inl hx, by omega⟩
      · have := md2.ma g hg
        exact ⟨this.1, this.2.2.1, this.2.2.2⟩
    have moff : ∀ g ∈ [l, r, r1, r2], ∀ x ∈ g.blk, N ≤ x ∧ x < w2.heap.size ∧ x ∉ rowsB bk [LB, LG, MB, MG] := fun g hg x hx => by
      rcases (mgs g hg).2.1 x hx with q | q
      · have := o1.blk x q
        exact ⟨this.1, by omega, (hdis x q).1⟩
      · have := B1.rows.base.2
        exact ⟨by omega, q.2, fun hm => by have := lt x hm; omega⟩
    have nw : ∀ x ∈ rowsB bk [LB, L', MB, M'], x ∈ rowsB bk [LB, LG, MB, MG] ∨ w2.heap.size ≤ x := fun x hx => by
      rcases rowsB_set (ss := [LB, L', MB, MG]) (i := 3) (s := MG) (r := M') (n := w2.heap.size) rfl (fun x hx => by
        rcases nM x hx with q | q
        · exact .inl q
        · exact .inr (by omega)) hx with q | q
      · exact rowsB_set (ss := [LB, LG, MB, MG]) (i := 1) (s := LG) (r := L') rfl nL q
      · exact .inr q
    (repeat refine And.intro rfl ?_)
    refine k (rowsB bk [LB, L', MB, M']) (ct ++ (l.blk ++ (r.blk ++ (r1.blk ++ r2.blk)))) w5 ?_ ⟨LB, L', MB, M', ⟨R5, ⟨gb, _, ((b1'.upd u3 (B2.rows.else_ (i := 1) (j := 0) rfl rfl (by decide))).old u4).upd u5 (R4.else_ (i := 3) (j := 0) rfl rfl (by decide)), ((b2.upd u3 (B2.rows.else_ (i := 1) (j := 2) rfl rfl (by decide))).old u4).upd u5 (R4.else_ (i := 3) (j := 2) rfl rfl (by decide)), b3, by omega, fun i g m' e1 e2 => keep (b5 i g m' e1 e2) (fun x hx => (B2.ct x ((b6 g (List.mem_of_getElem? e1)).2 x hx)).2.2), fun g hg => ⟨(b6 g hg).1, fun x hx => List.mem_append_left _ ((b6 g hg).2 x hx)⟩⟩, ⟨gg ++ [l, r, r1, r2], mg ++ [m, m, m, m], (hL.old u4).upd u5 (R4.else_ (i := 3) (j := 1) rfl rfl (by decide)), hM, by simp [g3], by simp; omega, fun i g m' e1 e2 => ?_, fun g hg => ⟨?_, fun x hx => ?_⟩⟩, fun x hx => ?_⟩, rfl⟩ (fun x hx => ?_) (fun x hx => ?_)
    · exact ((((u1.wide (m' := rowsB bk [LB, LG, MB, MG] ++ l.blk) (fun x hx => List.mem_append_right _ hx)).step md2.u (fun x hx => .inr (by simp [hx]))).step u3 (fun x hx => .inr (List.mem_append_left _ (q3 x hx)))).step u4 (by simp)).step u5 (fun x hx => .inr (List.mem_append_left _ (q5 x hx)))
    · rcases getElem?_app4 e1 with f1 | ⟨f1, f1'⟩
      · rcases getElem?_app4 e2 with f2 | ⟨f2, f2'⟩
        · exact keep (g5 i g m' f1 f2) (fun x hx => (B2.ct x ((g6 g (List.mem_of_getElem? f1)).2 x hx)).2.2)
        · have := (List.getElem?_eq_some_iff.1 f1).1; omega
      · rcases getElem?_app4 e2 with f2 | ⟨f2, f2'⟩
        · have := (List.getElem?_eq_some_iff.1 f2).1; omega
        · have : m' = m := by simpa using f2'
          subst this
          exact keep (mgs g f1').1 (fun x hx => (moff g f1' x hx).2.2)
    · rcases List.mem_append.1 hg with q | q
      · exact (g6 g q).1
      · have := (mgs g q).2.2
        omega
    · rcases List.mem_append.1 hg with q | q
      · exact List.mem_append_left _ ((g6 g q).2 x hx)
      · refine List.mem_append_right _ ?_
        simp only [List.mem_cons, List.not_mem_nil, or_false] at q
        simp only [List.mem_append]
        rcases q with rfl | rfl | rfl | rfl <;> simp [hx]
    · have key : N ≤ x ∧ x < w2.heap.size ∧ x ∉ rowsB bk [LB, LG, MB, MG] := by
        simp only [List.mem_append] at hx
        rcases hx with q | q | q | q | q
        · exact B2.ct x q
        · exact moff l (by simp) x q
        · exact moff r (by simp) x q
        · exact moff r1 (by simp) x q
        · exact moff r2 (by simp) x q
      refine ⟨key.1, by omega, fun hm => ?_⟩
      rcases nw x hm with q | q
      · exact key.2.2 q
      · omega
    · rcases nw x hx with q | q
      · exact .inl q
      · exact .inr (by omega)
    · have new : ∀ g ∈ [l, r, r1, r2], x ∈ g.blk → x ∈ l.blk ∨ w.heap.size ≤ x := fun g hg hx => by
        rcases (mgs g hg).2.1 x hx with q | q
        · exact .inl q
        · exact .inr (by omega)
      simp only [List.mem_append] at hx
      rcases hx with q | q | q | q | q
      · exact .inl q
      · exact .inr (.inl q)
      · exact .inr (new r (by simp) q)
      · exact .inr (new r1 (by simp) q)
      · exact .inr (new r2 (by simp) q)
  repeat' (first
    | exact fin _ _ _ _ _ md
    | refine ⟨md.kept kb, ?_⟩
    | refine md.app (by simp) (by decide) (by decide) (by omega) hbl fun r w hr md => ?_
    | (with_reducible refine And.intro ?_ ?_)
    | refine md.comp 1 rfl fun b w md => ?_
    | refine md.comp 2 rfl fun b w md => ?_
    | refine md.comp 3 rfl fun b w md => ?_)
theorem slAt {w : World} {L : Sl} {gs : List Sl} (h : Sees cSl w L gs) (i : Nat) {g : Sl} (hi : gs[i]? = some g) : w.cell? (L.at 1 (Int.toNat (i : Int))) = some g.val := by
  obtain ⟨h1, h2⟩ := List.getElem?_eq_some_iff.1 hi
  rw [Int.toNat_natCast]
  have := h.elem (i := i) h1 0 (by simp [cSl])
  rw [add_zero, h2] at this
  exact this
set_option maxRecDepth 20000 in
theorem c23 {hd : List Nat} (B : BookAt N w bk n hd ct) (hn : n ≤ 1000000) (k : ∀ w1, Upd [] [] w w1 → R (.bool true) w1) : Ret Try.prog 23 [.ptr (some ⟨bk, 0, none⟩)] w R := by
  obtain ⟨LB, LG, MB, MG, B, rfl⟩ := B
  refine f23_of _ _ _ ?_
  unfold vc23
  dsimp only [deref]
  have b0 : ∀ w', Bk N w' bk n LB LG MB MG ct → w'.cell? ⟨bk, 0, none⟩ = some LB.val := fun w' B' => by
    have := B'.rows.get 0 (s := LB) rfl
    rwa [add_zero] at this
  refine ⟨fun i w1 => Upd [] [] w w1 ∧ ∃ t : Nat, i = t ∧ t ≤ LB.len, fun i _ => (LB.len - i).toNat, ⟨Upd.refl _, 0, rfl, by omega⟩, ?_⟩
  rintro i w1 ⟨u1, t, rfl, ht⟩
  have B1 := B.old u1
  refine ⟨LB, b0 w1 B1, brd (fun hlt => ?_) (fun hge => ?_)⟩
  · obtain ⟨gb, mb, b1, b2, b3, b4, b5, b6⟩ := B1.bs
    have hgl := b1.len
    have hml := b2.len
    have ht2 : t < gb.length := by omega
    have eg : gb[t]? = some gb[t] := List.getElem?_eq_getElem ht2
    have gln := (b6 _ (List.getElem_mem ht2)).1
    generalize gb[t] = g at eg gln
    have em : mb[t]? = some (mb[t]'(by omega)) := List.getElem?_eq_getElem (by omega)
    generalize mb[t]'(by omega) = m at em
    refine ⟨fun j w2 => Upd [] [] w1 w2 ∧ ∃ q : Nat, j = q ∧ q ≤ g.len, fun j _ => (g.len - j).toNat, ⟨Upd.refl _, 0, rfl, by omega⟩, ?_⟩
    rintro j w2 ⟨u2, q, rfl, hq⟩
    have B2 := B1.old u2
    have c1 := b1.old u2
    have tix : ∀ X : Prop, X → Need (decide (0 ≤ (t : Int)) && decide ((t : Int) < (LB.len : Int)) && LB.ptr.isSome) X := fun X x => needIx (by omega) (by omega) (c1.isSome (by decide) (by omega)) x
    have hg := (b5 t g m eg em).old u2
    have hgl2 := hg.len
    rw [List.length_replicate] at hgl2
    refine ⟨LB, b0 w2 B2, tix _ ⟨g, slAt c1 t eg, brd (fun hlt2 => ?_) (fun hge2 => ?_)⟩⟩
    · refine ⟨LB, b0 w2 B2, tix _ ⟨g, slAt c1 t eg, ?_⟩⟩
      refine needB hg (by omega) (by rw [List.length_replicate]; omega) ⟨_, hg.byte (by omega) (by rw [List.length_replicate]; omega), MB, B2.rows.get 2 rfl, ?_⟩
      have c2 := b2.old u2
      refine needB c2 (by omega) (by omega) ⟨_, c2.byte (by omega) (by omega), ?_⟩
      have e1 : bt (List.replicate g.len m) (q : Int) = m := by rw [bt_nat (by rw [List.length_replicate]; omega)]; simp
      have e2 : bt mb (t : Int) = m := by rw [bt_nat (by omega)]; exact (List.getElem?_eq_some_iff.1 em).2
      rw [e1, e2]
      refine brf (by simp) fun w3 u3 => ⟨⟨u2.then u3, q + 1, wr_succ (by omega), by omega⟩, by rw [wr_succ (q := q) (by omega)]; (try dsimp only); omega⟩
    · exact ⟨⟨u1.then u2, t + 1, wr_succ (by omega), by omega⟩, by rw [wr_succ (q := t) (by omega)]; (try dsimp only); omega⟩
  clear hge ht
  refine ⟨fun i w2 => Upd [] [] w1 w2 ∧ ∃ t : Nat, i = t ∧ t ≤ LG.len, fun i _ => (LG.len - i).toNat, ⟨Upd.refl _, 0, rfl, by omega⟩, ?_⟩
  rintro i w2 ⟨u2, t, rfl, ht⟩
  have B2 := B1.old u2
  refine ⟨LG, B2.rows.get 1 rfl, brd (fun hlt => ?_) (fun hge => k w2 (u1.then u2))⟩
  obtain ⟨gg, mg, g1, g2, g3, g4, g5, g6⟩ := B2.gs
  have hgl := g1.len
  have hml := g2.len
  have ht2 : t < gg.length := by omega
  have eg : gg[t]? = some gg[t] := List.getElem?_eq_getElem ht2
  have gln := (g6 _ (List.getElem_mem ht2)).1
  generalize gg[t] = g at eg gln
  have em : mg[t]? = some (mg[t]'(by omega)) := List.getElem?_eq_getElem (by omega)
  generalize mg[t]'(by omega) = m at em
  refine ⟨fun j w3 => Upd [] [] w2 w3 ∧ ∃ q : Nat, j = q ∧ q ≤ g.len, fun j _ => (g.len - j).toNat, ⟨Upd.refl _, 0, rfl, by omega⟩, ?_⟩
  rintro j w3 ⟨u3, q, rfl, hq⟩
  have B3 := B2.old u3
  have c1 := g1.old u3
  have c2 := g2.old u3
  have tix : ∀ X : Prop, X → Need (decide (0 ≤ (t : Int)) && decide ((t : Int) < (LG.len : Int)) && LG.ptr.isSome) X := fun X x => needIx (by omega) (by omega) (c1.isSome (by decide) (by omega)) x
  have hg := (g5 t g m eg em).old u3
  have hgl2 := hg.len
  rw [List.length_replicate] at hgl2
  refine ⟨LG, B3.rows.get 1 rfl, tix _ ⟨g, slAt c1 t eg, brd (fun hlt2 => ?_) (fun hge2 => ?_)⟩⟩
  · refine ⟨LG, B3.rows.get 1 rfl, tix _ ⟨g, slAt c1 t eg, needIx (by omega) (by omega) (hg.isSome (by decide) (by rw [List.length_replicate]; omega)) ⟨fun _ => m, fun i hi => ?_, ?_⟩⟩⟩
    · rw [Nat.zero_add, Int.toNat_natCast]
      have e0 := hg.elem (i := q) (by rw [List.length_replicate]; omega) 0 (by simp [cG])
      have e1 := hg.elem (i := q) (by rw [List.length_replicate]; omega) 1 (by simp [cG])
      simp only [List.getElem_replicate] at e0 e1
      match i, hi with
      | 0, _ => exact e0
      | 1, _ => exact e1
    · have mi : w3.cell? (MG.at 1 (Int.toNat (t : Int))) = some (.int .i64 m) := by
        rw [intAt c2 _ (by rw [Int.toNat_natCast]; omega)]
        congr 2
        simp only [Int.toNat_natCast]
        exact (List.getElem?_eq_some_iff.1 em).2
      have mix : ∀ X : Prop, X → Need (decide (0 ≤ (t : Int)) && decide ((t : Int) < (MG.len : Int)) && MG.ptr.isSome) X := fun X x => needI c2 (by omega) (by omega) x
      refine ⟨MG, B3.rows.get 3 rfl, mix _ ⟨m, mi, MG, B3.rows.get 3 rfl, mix _ ⟨m, mi, brf ?_ fun w4 u4 => ?_⟩⟩⟩
      · simp [eqArr, fset, List.range, List.range.loop]
      · exact ⟨⟨u3.then u4, q + 1, wr_succ (by omega), by omega⟩, by rw [wr_succ (q := q) (by omega)]; (try dsimp only); omega⟩
  · exact ⟨⟨u2.then u3, t + 1, wr_succ (by omega), by omega⟩, by rw [wr_succ (q := t) (by omega)]; (try dsimp only); omega⟩
end
end Go.Vc.S11
