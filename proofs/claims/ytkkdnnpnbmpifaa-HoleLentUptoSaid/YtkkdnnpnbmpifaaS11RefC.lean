import Derived.Test.YtkkdnnpnbmpifaaS11TxtR
import Derived.Test.YtkkdnnpnbmpifaaS11RefB
import Derived.Test.YtkkdnnpnbmpifaaS11L4
open Go Go.Vc Go.Proofs
set_option linter.unusedVariables false
set_option linter.unusedSimpArgs false
set_option autoImplicit false
namespace Go.Vc.S11
/-- pieces: place, bytes, more -/
def cK : Cod (Int × Int × Bool) := ⟨3, fun p => [.int .i64 p.1, .int .i64 p.2.1, .bool p.2.2], fun _ => rfl, by simp [Value.oneCell']⟩
/-- the document's Holes in memory -/
structure Whl (N : Nat) (w : World) (h : Nat) (W : Wh) (A D P : Sl) : Prop where
  box : Bx w h [.int W.max, .sl A, .sl D, .int W.fin, .sl P]
  has : Sees cBl w A W.has
  ho : Own N 1 w A
  data : SeesB w D W.data
  d_o : Own N 1 w D
  pcs : Sees cK w P W.pcs
  po : Own N 3 w P
  a1 : h ∉ A.blk ∧ h ∉ D.blk ∧ h ∉ P.blk
  a2 : (∀ x ∈ A.blk, x ∉ D.blk ∧ x ∉ P.blk) ∧ ∀ x ∈ D.blk, x ∉ P.blk
  base : N ≤ h ∧ N ≤ w.heap.size
def wblk (h : Nat) (A D P : Sl) : List Nat := h :: (A.blk ++ (D.blk ++ P.blk))
section
variable {N h : Nat} {w w1 : World} {W : Wh} {A D P : Sl} {R : SV → World → Prop} {S : Hs}
theorem Whl.upd {ms ns : List Nat} (H : Whl N w h W A D P) (u : Upd ms ns w w1) (hm : ∀ x ∈ wblk h A D P, x ∉ ms) : Whl N w1 h W A D P := by
  have hA : ∀ x ∈ A.blk, x ∉ ms := fun x hx => hm x (by simp [wblk, hx])
  have hD : ∀ x ∈ D.blk, x ∉ ms := fun x hx => hm x (by simp [wblk, hx])
  have hP : ∀ x ∈ P.blk, x ∉ ms := fun x hx => hm x (by simp [wblk, hx])
  exact ⟨H.box.upd u (hm h (by simp [wblk])), H.has.upd u hA, H.ho.upd u hA, H.data.upd u hD, H.d_o.upd u hD, H.pcs.upd u hP, H.po.upd u hP, H.a1, H.a2, ⟨H.base.1, by have := u.size; have := H.base.2; omega⟩⟩
theorem Whl.old {ns : List Nat} (H : Whl N w h W A D P) (u : Upd [] ns w w1) : Whl N w1 h W A D P := H.upd u (by simp)
theorem Whl.lt (H : Whl N w h W A D P) : ∀ x ∈ wblk h A D P, N ≤ x ∧ x < w.heap.size := by
  intro x hx
  simp only [wblk, List.mem_cons, List.mem_append] at hx
  rcases hx with rfl | hx | hx | hx
  · exact ⟨H.base.1, H.box.lt⟩
  · exact H.ho.blk x hx
  · exact H.d_o.blk x hx
  · exact H.po.blk x hx
theorem wget0 (H : Whl N w h W A D P) : w.cell? ⟨h, 0, none⟩ = some (.int .i64 W.max) := by have := H.box.int 0 W.max rfl; rwa [add_zero] at this
theorem c35 {mx : Int} (k0 : (mx < 1 ∨ 65535 < mx) → R (.tuple [.ptr none, .int .i64 1]) w)
    (k : 1 ≤ mx → mx ≤ 65535 → ∀ h w1, Upd [] [] w w1 → Whl w.heap.size w1 h ⟨mx, [], [], -1, []⟩ ⟨none, 0, 0⟩ ⟨none, 0, 0⟩ ⟨none, 0, 0⟩ → R (.tuple [.ptr (some ⟨h, 0, none⟩), .int .i64 0]) w1) : Ret Try.prog 35 [.int .i64 mx] w R := by
  refine f35_of _ _ _ ?_
  unfold vc35
  intro J hJ
  refine brd (fun h1 => k0 (.inl h1)) (fun h1 => brd (fun h2 => k0 (.inr h2)) (fun h2 => ?_))
  refine hJ _ ?_
  intro b w1 u1 hr1
  have n1 := u1.new (b := b) (by simp)
  have y1 := u1.size
  exact k (by omega) (by omega) b w1 u1.forget ⟨Bx.mk' hr1 rfl, Sees.nil _ _ _ _, Own.none _ _ _, Sees.nil _ _ _ _, Own.none _ _ _, Sees.nil _ _ _ _, Own.none _ _ _, by simp [Sl.blk], by simp [Sl.blk], ⟨by omega, by omega⟩⟩
theorem c41 {off : Int} {n : Nat} {more : Bool} (H : Whl N w h W A D P) (hmax : W.max ≤ 65535) (hn : n < 9223372036854775807) (hl : W.has.length ≤ 65535) (k : R (.int .i64 (errW W off n more)) w) : Ret Try.prog 41 [.ptr (some ⟨h, 0, none⟩), .int .i64 off, .int .i64 (n : Int), .bool more] w R := by
  refine f41_of _ _ _ _ _ _ ?_
  unfold vc41
  have hfin := H.box.int 3 W.fin rfl
  have hAl := H.has.len
  refine brd (fun h1 => ?_) (fun h1 => ?_)
  · have e : errW W off n more = 2 := by unfold errW; rw [if_pos (by omega)]
    rwa [e] at k
  intro J hJ
  have unit : (off < 0 ∨ off.tmod 8 ≠ 0 ∨ (more = true ∧ n % 8 ≠ 0)) → R (.int .i64 110) w := fun h2 => by
    have e : errW W off n more = 110 := by unfold errW; rw [if_neg (by omega), if_pos h2]
    rwa [e] at k
  have key : ¬ (off < 0 ∨ off.tmod 8 ≠ 0 ∨ (more = true ∧ n % 8 ≠ 0)) → J w := by
    intro h2
    refine hJ _ (bre (fun h3 => ?_) (fun h3 => ?_))
    · have e : errW W off n more = 111 := by unfold errW; rw [if_neg (by omega), if_neg h2, if_pos (by omega)]
      rwa [e] at k
    have ho : 0 ≤ off := by
      rcases Int.lt_or_le off 0 with q | q
      · exact absurd (.inl q) h2
      · exact q
    intro J2 hJ2
    dsimp only [deref]
    refine ⟨W.max, wget0 H, brd (fun h4 => ?_) (fun h4 => ⟨W.max, wget0 H, ?_⟩)⟩
    · have e : errW W off n more = 112 := by unfold errW; rw [if_neg (by omega), if_neg h2, if_neg (by omega), if_pos (by omega)]
      rwa [e] at k
    have ew : wr .i64 (off + (n : Int)) = off + n := wr_i64 (by omega) (by omega)
    rw [ew] at hJ2 ⊢
    refine brd (fun h5 => ?_) (fun h5 => ?_)
    · have e : errW W off n more = 112 := by unfold errW; rw [if_neg (by omega), if_neg h2, if_neg (by omega), if_pos (by omega)]
      rwa [e] at k
    have e0 : errW W off n more = if 0 ≤ W.fin ∧ more = false ∧ off + n ≠ W.fin then 114
        else if 0 ≤ W.fin ∧ more = true ∧ W.fin < off + n then 113 else if W.fin < 0 ∧ more = false ∧ off + n < W.has.length then 114 else 0 := by
      unfold errW; rw [if_neg (by omega), if_neg h2, if_neg (by omega), if_neg (by omega)]
    refine hJ2 _ ?_
    clear hJ2 hJ
    intro J3 hJ3
    have key3 : J3 (decide (0 ≤ W.fin ∧ more = false ∧ off + n ≠ W.fin)) w := by
      refine hJ3 _ _ (brd (fun h6 => ?_) (fun h6 => ?_))
      · rw [if_pos h6] at e0; rwa [e0] at k
      rw [if_neg h6] at e0
      clear hJ3
      intro J4 hJ4
      have key4 : J4 (decide (0 ≤ W.fin ∧ more = true ∧ W.fin < off + n)) w := by
        refine hJ4 _ _ (brd (fun h7 => ?_) (fun h7 => ?_))
        · rw [if_pos h7] at e0; rwa [e0] at k
        rw [if_neg h7] at e0
        dsimp only [deref]
        refine ⟨W.fin, hfin, brd (fun h8 => brn (fun h9 => ⟨A, H.box.sl 1 A rfl, brd (fun h10 => ?_) (fun h10 => ?_)⟩) (fun h9 => ?_)) (fun h8 => ?_)⟩
        · rw [if_pos ⟨h8, h9, by omega⟩] at e0; rwa [e0] at k
        · rw [if_neg (by intro q; omega)] at e0; rwa [e0] at k
        · rw [if_neg (by simp [h9])] at e0; rwa [e0] at k
        · rw [if_neg (by omega)] at e0; rwa [e0] at k
      dsimp only [deref]
      refine ⟨W.fin, hfin, brd (fun h7 => brb (fun h8 => ⟨W.fin, hfin, ?_⟩) (fun h8 => ?_)) (fun h7 => ?_)⟩
      · rw [show decide (off + (n : Int) > W.fin) = decide (0 ≤ W.fin ∧ more = true ∧ W.fin < off + n) from decide_eq_decide.2 ⟨fun q => ⟨h7, h8, q⟩, fun q => q.2.2⟩]
        exact key4
      · rw [show decide (0 ≤ W.fin ∧ more = true ∧ W.fin < off + n) = false from decide_eq_false (by simp [h8])] at key4
        exact key4
      · rw [show decide (0 ≤ W.fin ∧ more = true ∧ W.fin < off + n) = false from decide_eq_false (by intro q; exact h7 q.1)] at key4
        exact key4
    dsimp only [deref]
    refine ⟨W.fin, hfin, brd (fun h7 => brn (fun h8 => ⟨W.fin, hfin, ?_⟩) (fun h8 => ?_)) (fun h7 => ?_)⟩
    · rw [show (off + (n : Int) != W.fin) = decide (0 ≤ W.fin ∧ more = false ∧ off + n ≠ W.fin) by
        by_cases q : off + (n : Int) = W.fin
        · rw [decide_eq_false (by simp [q])]; simp [q]
        · rw [decide_eq_true ⟨h7, h8, q⟩]; simp [q]]
      exact key3
    · rw [show decide (0 ≤ W.fin ∧ more = false ∧ off + n ≠ W.fin) = false from decide_eq_false (by simp [h8])] at key3
      exact key3
    · rw [show decide (0 ≤ W.fin ∧ more = false ∧ off + n ≠ W.fin) = false from decide_eq_false (by intro q; exact h7 q.1)] at key3
      exact key3
  have e8 : Int.tmod (n : Int) 8 = ((n % 8 : Nat) : Int) := by rw [Int.tmod_eq_emod_of_nonneg (by omega)]; rfl
  refine brd (fun h2 => unit (.inl h2)) (fun h2 => bre' (fun h3 => unit (.inr (.inl h3))) (fun h3 => brb (fun h4 => bre' (fun h5 => unit (.inr (.inr ⟨h4, by omega⟩))) (fun h5 => key ?_)) (fun h4 => key ?_)))
  · rintro (x | x | x)
    · exact h2 x
    · exact x h3
    · exact x.2 (by omega)
  · rintro (x | x | x)
    · exact h2 x
    · exact x h3
    · rw [h4] at x; cases x.1
theorem c42 (r : Rl S W) (H : Whl N w h W A D P) (k : R (.int .i64 (bnd S)) w) : Ret Try.prog 42 [.ptr (some ⟨h, 0, none⟩)] w R := by
  refine f42_of _ _ _ ?_
  unfold vc42
  have hfin := H.box.int 3 W.fin rfl
  dsimp only [deref]
  refine ⟨W.fin, hfin, brd (fun q => ⟨W.fin, hfin, ?_⟩) (fun q => ⟨W.max, wget0 H, ?_⟩)⟩
  · have : bnd S = W.fin := by unfold bnd; rw [r.fn] at *; rw [if_pos q]
    rwa [this] at k
  · have : bnd S = W.max := by unfold bnd; rw [r.fn] at *; rw [if_neg (by omega), r.mx]
    rwa [this] at k
theorem c43 {i : Nat} (H : Whl N w h W A D P) (k : R (.bool (hasAt W i)) w) : Ret Try.prog 43 [.ptr (some ⟨h, 0, none⟩), .int .i64 (i : Int)] w R := by
  refine f43_of _ _ _ _ ?_
  unfold vc43
  have hAl := H.has.len
  have hA := H.box.sl 1 A rfl
  dsimp only [deref]
  refine ⟨A, hA, brd (fun q => ⟨A, hA, needIx (by omega) q (H.has.isSome (by decide) (by omega)) ⟨hasAt W i, ?_, k⟩⟩) (fun q => ?_)⟩
  · rw [Int.toNat_natCast]
    refine boolAt H.has i ?_
    unfold hasAt
    rw [List.getD_eq_getElem?_getD, List.getElem?_eq_getElem (by omega)]
    rfl
  · have : hasAt W i = false := by
      unfold hasAt
      rw [List.getD_eq_getElem?_getD, List.getElem?_eq_none (by omega)]
      rfl
    rwa [this] at k
theorem c39 (r : Rl S W) (H : Whl N w h W A D P) (k : ∀ w1, Upd [] [] w w1 → R (.int .i64 S.held) w1) : Ret Try.prog 39 [.ptr (some ⟨h, 0, none⟩)] w R := by
  refine f39_of _ _ _ ?_
  unfold vc39
  have hAl := H.has.len
  have gb := r.g.bnd_le
  have gm := r.g.mx
  have le := r.le
  have cb : ∀ n : Nat, 0 ≤ cntI (hasAt W) n ∧ cntI (hasAt W) n ≤ n := fun n => by
    induction n with
    | zero => simp [cntI]
    | succ n ih => unfold cntI; split <;> omega
  refine ⟨fun n i w' => Upd [] [] w w' ∧ ∃ t : Nat, i = t ∧ t ≤ W.has.length ∧ n = cntI (hasAt W) t, fun _ i _ => (W.has.length - i).toNat, ⟨Upd.refl w, 0, rfl, by omega, rfl⟩, ?_⟩
  rintro n i w1 ⟨u, t, rfl, ht, rfl⟩
  have H1 := H.old u
  have hA := H1.box.sl 1 A rfl
  dsimp only [deref]
  refine ⟨A, hA, brd (fun hlt => ?_) (fun hge => ?_)⟩
  · intro J hJ
    have hv : W.has[t]? = some (hasAt W t) := by
      unfold hasAt; rw [List.getD_eq_getElem?_getD, List.getElem?_eq_getElem (by omega)]; rfl
    have c0 := cb t
    have nx : J (cntI (hasAt W) (t + 1)) w1 := hJ _ _ ⟨⟨u, t + 1, wr_succ (by omega), by omega, rfl⟩, by rw [wr_succ (q := t) (by omega)]; (try dsimp only); omega⟩
    refine ⟨A, hA, needIx (by omega) hlt (H1.has.isSome (by decide) (by omega)) ⟨hasAt W t, by rw [Int.toNat_natCast]; exact boolAt H1.has t hv, brb (fun q => ?_) (fun q => ?_)⟩⟩
    · have e : cntI (hasAt W) (t + 1) = cntI (hasAt W) t + 1 := by show cntI (hasAt W) t + (if hasAt W t = true then 1 else 0) = _; rw [q]; rfl
      rw [wr_i64 (by omega) (by omega), ← e]; exact nx
    · have e : cntI (hasAt W) (t + 1) = cntI (hasAt W) t := by show cntI (hasAt W) t + (if hasAt W t = true then 1 else 0) = _; rw [q]; simp
      rw [← e]; exact nx
  · have : t = W.has.length := by omega
    subst this
    rw [← r.held]
    exact k w1 u
theorem c37 (r : Rl S W) (H : Whl N w h W A D P) (k : R (.tuple [.int .i64 (imax S.fin 0), .bool (decide (S.fin ≥ 0))]) w) : Ret Try.prog 37 [.ptr (some ⟨h, 0, none⟩)] w R := by
  refine f37_of _ _ _ ?_
  unfold vc37
  have hfin := H.box.int 3 W.fin rfl
  rw [r.fn] at hfin
  dsimp only [deref]
  refine ⟨S.fin, hfin, brd (fun q => ?_) (fun q => ⟨S.fin, hfin, ?_⟩)⟩
  · have e1 : imax S.fin 0 = 0 := by unfold imax; split <;> omega
    rw [e1, decide_eq_false (show ¬ S.fin ≥ 0 by omega)] at k
    exact k
  · have e1 : imax S.fin 0 = S.fin := by unfold imax; split <;> omega
    rw [e1, decide_eq_true (show S.fin ≥ 0 by omega)] at k
    exact k
theorem c38 (r : Rl S W) (H : Whl N w h W A D P) (k : ∀ w1, Upd [] [] w w1 → R (.bool (wholeS S)) w1) : Ret Try.prog 38 [.ptr (some ⟨h, 0, none⟩)] w R := by
  refine f38_of _ _ _ ?_
  unfold vc38
  have hfin := H.box.int 3 W.fin rfl
  have hw := r.wholeEq
  dsimp only [deref]
  refine ⟨W.fin, hfin, brd (fun q => ⟨W.fin, hfin, fun w1 u1 => ?_⟩) (fun q => fun w1 u1 => ?_)⟩
  · refine c39 r (H.old u1) fun w2 u2 => ⟨_, rfl, u1.then u2, ?_⟩
    have := k w2 (u1.then u2)
    rw [hw, decide_eq_true q, Bool.true_and] at this
    exact this
  · have := k w1 u1
    rw [hw, decide_eq_false q, Bool.false_and] at this
    exact this
theorem c28 (r : Rl S W) (H : Whl N w h W A D P) (k : ∀ s w1, Upd [] [] w w1 → SeesB w1 s (if wholeS S then S.buf.take S.fin.toNat else []) → Own w.heap.size 1 w1 s → R (.tuple [.slice s, .bool (wholeS S)]) w1) : Ret Try.prog 28 [.ptr (some ⟨h, 0, none⟩)] w R := by
  refine f28_of _ _ _ ?_
  unfold vc28
  have gb := r.g.bnd_le
  have gm := r.g.mx
  have le := r.le
  have dl := r.dl
  refine c38 r H fun w1 u1 => ⟨_, rfl, brn (fun q => ?_) (fun q => ?_)⟩
  · have := k ⟨none, 0, 0⟩ w1 u1 (by rw [q]; exact Sees.nil _ _ _ _) (Own.none _ _ _)
    rwa [q] at this
  · have H1 := H.old u1
    have z1 := u1.size
    dsimp only [deref]
    refine ⟨D, H1.box.sl 2 D rfl, append_own (c := cU8) (l := []) (Sees.nil _ _ _ _) (Own.none w.heap.size _ _) H1.data z1 (by simp) (by decide) (by simp; omega) fun s w2 hs ho u2 _ => ?_⟩
    have := k s w2 (u1.then (by simpa [Sl.blk] using u2)) (by rw [if_pos q, (r.bytes q).2]; simpa using hs) ho
    rwa [q] at this
end
end Go.Vc.S11
