import Derived.Test.YtkkdnnpnbmpifaaS11TxtP3
import Derived.Test.YtkkdnnpnbmpifaaG7
open Go Go.Vc Go.Proofs
set_option linter.unusedVariables false
set_option linter.unusedSimpArgs false
set_option autoImplicit false
namespace Go.Vc.S11
section
variable {w : World} {R : SV → World → Prop} {N h m : Nat} {S : Hs} {B G : Sl}
/-- the first bytes, in new memory -/
theorem c13 {b : Sl} {l : List Int} (hs : SeesB w b l) (hc : b.len ≤ b.cap) (k : ∀ s w1, Upd [] [] w w1 → SeesB w1 s (l.take 4096) → Own w.heap.size 1 w1 s → R (.slice s) w1) : Ret Try.prog 13 [.slice b] w R := by
  refine f13_of _ _ _ ?_
  unfold vc13
  have hl := hs.len
  intro J hJ
  have key : ∀ s l', SeesB w s l' → l' = l.take 4096 → J s w := fun s l' h' e => hJ _ _ (append_own (c := cU8) (l := []) (Sees.nil _ _ _ _) (Own.none w.heap.size _ _) h' (Nat.le_refl _) (by simp) (by decide) (by simp [e]; omega) fun r w1 hr ho u _ => by
    subst e
    exact k r w1 (by simpa [Sl.blk] using u) (by simpa using hr) ho)
  refine brd (fun hlt => needD (by omega) ?_) (fun hge => key b l hs (List.take_of_length_le (by omega)).symm)
  have := hs.subB (lo := 0) (hi := 4096) (mx := b.cap) (by omega) (by omega) (by omega)
  exact key _ _ this (by simp)
theorem rise_drop {top : Int} : ∀ {l : List (Int × Int)} {b : Int} {t : Nat} (ht : t < l.length), Rise top b l → Rise top (if t = 0 then b else (l[t - 1]'(by omega)).2) (l.drop t)
  | [], _, _, ht, _ => by simp at ht
  | g :: r, b, 0, _, h => h
  | g :: r, b, t + 1, ht, h => by
    have := rise_drop (l := r) (b := g.2) (t := t) (by simpa using ht) h.2.2.2
    simp only [List.drop_succ_cons, Nat.succ_ne_zero, if_false, Nat.add_sub_cancel]
    cases t with
    | zero => simpa using this
    | succ t => simpa using this
set_option maxRecDepth 20000 in
/-- what is told behind a piece -/
theorem t3 {J : World → Prop} (g : Good S) (H : Hol N w h S B G m) (hR : ∀ w1, Upd [] [] w w1 → J w1) : tail3 (some ⟨h, 0, none⟩) w R J S.max := by
  unfold tail3
  have O := g.ok
  have hb := g.bnd_le
  have mx := g.mx
  have hf := g.fi
  refine c14 H fun w1 u1 => ⟨_, _, rfl, ?_⟩
  intro J1 hJ1
  have key : J1 (bnd S) w1 := by
    refine hJ1 _ _ ?_
    clear hJ1
    refine c11 (H.old u1) (by have := O.gl; omega) fun s w2 u2 hs ho => ⟨_, rfl, ?_⟩
    have v2 := u1.then u2
    refine c15 (H.old v2) ⟨_, rfl, ?_⟩
    have hsl := hs.len
    have gl := O.gl
    refine ⟨fun n last k w' => Upd [] [] w w' ∧ Sees cG w' s S.gaps ∧ ∃ t : Nat, k = t ∧ t ≤ S.gaps.length ∧ n + lens (S.gaps.drop t) = bnd S ∧ Rise (bnd S) last (S.gaps.drop t) ∧ 0 ≤ n ∧ -1 ≤ last, fun _ _ k _ => (S.gaps.length - k).toNat, ⟨v2, hs, 0, rfl, by omega, g.sum, g.ri, g.he, by omega⟩, ?_⟩
    rintro n last k w3 ⟨v3, hs3, t, rfl, ht, e1, e2, e3, e4⟩
    refine brd (fun hlt => ?_) (fun hge => ?_)
    · have ht2 : t < S.gaps.length := by omega
      have hdr : S.gaps.drop t = S.gaps[t] :: S.gaps.drop (t + 1) := List.drop_eq_getElem_cons ht2
      rw [hdr] at e1 e2
      obtain ⟨r1, r2, r3, r4⟩ := e2
      simp only [lens] at e1
      have hln := lens_nonneg r4
      intro J2 hJ2 J3 hJ3
      have tix : ∀ X : Prop, X → Need (decide (0 ≤ (t : Int)) && decide ((t : Int) < (s.len : Int)) && s.ptr.isSome) X := fun X x => needIx (by omega) (by omega) (hs3.isSome (by decide) (by omega)) x
      have c0 : w3.cell? ((s.at 2 (Int.toNat (t : Int))).add 0) = some (.int .i64 S.gaps[t].1) := by rw [Int.toNat_natCast]; exact hs3.elem ht2 0 (by simp [cG])
      have c1 : w3.cell? ((s.at 2 (Int.toNat (t : Int))).add 1) = some (.int .i64 S.gaps[t].2) := by rw [Int.toNat_natCast]; exact hs3.elem ht2 1 (by simp [cG])
      have j3 : ∀ w4, Upd [] [] w3 w4 → J3 w4 := fun w4 u4 => by
        refine hJ3 _ ?_
        have hs4 := Sees.old hs3 u4
        have d0 : w4.cell? ((s.at 2 (Int.toNat (t : Int))).add 0) = some (.int .i64 S.gaps[t].1) := by rw [Int.toNat_natCast]; exact hs4.elem ht2 0 (by simp [cG])
        have d1 : w4.cell? ((s.at 2 (Int.toNat (t : Int))).add 1) = some (.int .i64 S.gaps[t].2) := by rw [Int.toNat_natCast]; exact hs4.elem ht2 1 (by simp [cG])
        refine tix _ ⟨_, d1, tix _ ⟨_, d0, tix _ ⟨_, d1, fun w5 u5 => ?_⟩⟩⟩
        rw [wr_i64 (x := S.gaps[t].2 - S.gaps[t].1) (by omega) (by omega), wr_i64 (by omega) (by omega)]
        exact hJ2 _ _ _ ⟨⟨(v3.then u4).then u5, Sees.old hs4 u5, t + 1, wr_succ (by omega), by omega, by omega, r4, by omega, by omega⟩, by rw [wr_succ (q := t) (by omega)]; (try dsimp only); omega⟩
      exact tix _ ⟨_, c0, brd (fun q => by omega) (fun _ => tix _ ⟨_, c1, tix _ ⟨_, c0, brd (fun q => by omega) (fun _ => tix _ ⟨_, c1, brd (fun q => by omega) (fun _ => j3)⟩)⟩⟩)⟩
    · have htl : t = S.gaps.length := by omega
      subst htl
      rw [List.drop_length] at e1
      simp only [lens, Int.add_zero] at e1
      refine brf (by simp [e1]) ?_
      refine c16 (H.old v3) ⟨_, rfl, ?_⟩
      have ew : wholeS S = (decide (S.fin ≥ 0) && ((s.len : Int) == 0)) := by
        unfold wholeS
        congr 1
        rw [hsl]
        cases S.gaps <;> simp <;> omega
      refine brb (fun hk => ?_) (fun hk => ?_)
      · refine brf ?_ (hR w3 v3)
        rw [ew, hk, Bool.true_and]
        cases ((s.len : Int) == 0) <;> rfl
      · refine brf ?_ (hR w3 v3)
        rw [ew, hk]; rfl
  refine brn (fun hk => ?_) (fun hk => ?_)
  · have : bnd S = S.max := by unfold bnd; rw [if_neg (by simpa using hk)]
    rwa [this] at key
  · have h0 : 0 ≤ S.fin := by simpa using hk
    have : bnd S = imax S.fin 0 := by unfold bnd imax; rw [if_pos h0]; split <;> omega
    rwa [this] at key
/-- pieces: a place, bytes, more -/
def cPc : Cod (Int × Sl × Bool) := ⟨3, fun p => [.int .i64 p.1, p.2.1.val, .bool p.2.2], fun _ => rfl, by simp [Value.oneCell', Sl.val]⟩
/-- the bytes of a piece at hand -/
def PcOk (w : World) (p : Int × Sl × Bool) : Prop := ∃ l, SeesB w p.2.1 l ∧ Byt l ∧ p.2.1.len ≤ p.2.1.cap
set_option maxRecDepth 20000 in
theorem c3 {max : Int} {pieces : Sl} {ps : List (Int × Sl × Bool)} (hp : Sees cPc w pieces ps) (hps : ∀ p ∈ ps, PcOk w p) : Ret Try.prog 3 [.int .i64 max, .slice pieces] w fun r w1 => r = .bool true ∧ Upd [] [] w w1 := by
  refine f3_of _ _ _ _ ?_
  unfold vc3
  have hpl := hp.len
  intro J hJ
  have main : ∀ mx, 1 ≤ mx → mx ≤ 65535 → J mx w := by
    intro mx h1 h2
    refine hJ _ _ ?_
    clear hJ
    refine c10 (fun q => by omega) fun _ _ h m G w1 u1 H1 => ⟨_, _, rfl, ?_⟩
    have g1 := Good.new h1 h2
    intro J2 hJ2
    refine brf rfl (brf (by simp) ?_)
    refine c11 H1 (by simp) fun s w2 u2 hs _ => ⟨_, rfl, brf (by have := hs.len; simp at this; simp [this]) ?_⟩
    refine c11 (H1.old u2) (by simp) fun s3 w3 u3 hs3 _ => ⟨_, rfl, ?_⟩
    have hl3 : s3.len = 1 := hs3.len
    refine need (by simp [hl3]; exact hs3.isSome (by decide) (by simp)) ⟨fun i => if i = 0 then 0 else mx, fun i hi => ?_, ?_⟩
    · rw [Nat.zero_add]
      have e0 := hs3.elem (i := 0) (by simp) 0 (by simp [cG])
      have e1 := hs3.elem (i := 0) (by simp) 1 (by simp [cG])
      match i, hi with
      | 0, _ => exact e0
      | 1, _ => exact e1
    refine brf (by simp [eqArr, fset, List.range, List.range.loop]) ?_
    have v3 := (u1.then u2).then u3
    refine hJ2 _ ?_
    clear hJ2
    refine ⟨fun i w' => ∃ (S : Hs) (B G : Sl) (t : Nat), Good S ∧ S.max = mx ∧ Hol w.heap.size w' h S B G m ∧ Upd [] [] w w' ∧ i = t ∧ t ≤ ps.length, fun i _ => (ps.length - i).toNat, ⟨_, _, _, 0, g1, rfl, (H1.old u2).old u3, v3, rfl, by omega⟩, ?_⟩
    rintro i w4 ⟨S, B, G', t, g, hmx, H4, v4, rfl, ht⟩
    intro J3 hJ3
    refine brd (fun hlt => brd (fun h120 => ?_) (fun _ => ⟨rfl, v4⟩)) (fun _ => ⟨rfl, v4⟩)
    refine hJ3 _ ?_
    clear hJ3
    intro J4 hJ4
    have ht2 : t < ps.length := by omega
    have hp4 := hp.old v4
    have tix : ∀ X : Prop, X → Need (decide (0 ≤ (t : Int)) && decide ((t : Int) < (pieces.len : Int)) && pieces.ptr.isSome) X := fun X x => needIx (by omega) (by omega) (hp4.isSome (by decide) (by omega)) x
    have c0 := hp4.elem ht2 0 (by simp [cPc])
    have c1 := hp4.elem ht2 1 (by simp [cPc])
    have c2 := hp4.elem ht2 2 (by simp [cPc])
    rw [add_zero] at c0
    obtain ⟨l, hl, hb, hc⟩ := hps _ (List.getElem_mem ht2)
    rw [Int.toNat_natCast]
    refine tix _ ⟨_, c0, tix _ ⟨_, c1, tix _ ⟨_, c2, fun w5 u5 => ?_⟩⟩⟩
    refine c13 ((hl.old v4).old u5) hc fun s6 w6 u6 hs6 ho6 => ⟨_, rfl, u5.then u6, ?_⟩
    have t46 := u5.then u6
    have H6 := H4.old t46
    have lt4 := H4.lt
    have z5 := u5.size; have z6 := u6.size; have z4 := v4.size
    have sB := ho6.blk
    have rest : ∀ (S' : Hs) (B' G2 : Sl) (w7 : World), Good S' → S'.max = mx → Hol w.heap.size w7 h S' B' G2 m → Upd [] [] w w7 → tail3 (some ⟨h, 0, none⟩) w7 (fun r w1 => r = .bool true ∧ Upd [] [] w w1) J4 mx := by
      intro S' B' G2 w7 g7 hm7 H7 v7
      have := t3 (R := fun r w1 => r = .bool true ∧ Upd [] [] w w1) (J := J4) g7 H7 (fun w8 u8 => hJ4 _ ⟨⟨S', B', G2, t + 1, g7, hm7, H7.old u8, v7.then u8, wr_succ (by omega), by omega⟩, by rw [wr_succ (q := t) (by omega)]; (try dsimp only); omega⟩)
      rwa [hm7] at this
    refine c12 H6 g.ok hs6 ho6.le (fun x hx => hb x (List.mem_of_mem_take hx)) (fun x hx => ⟨(sB x hx).2, fun hm => by have := (lt4 x hm).2; have := (sB x hx).1; omega⟩) (fun w7 u7 _ => ⟨_, _, _, _, rfl, rest S B G' w7 g hmx (H6.old u7) ((v4.then t46).then u7)⟩) (fun B7 G7 w7 he V7 H7 _ => ⟨_, _, _, _, rfl, rest _ B7 G7 w7 (g.put he (fun x hx => hb x (List.mem_of_mem_take hx))) hmx H7 ?_⟩)
    exact (v4.then t46).step0 V7 (fun x hx => (H6.lt x hx).1)
  clear hJ
  exact brd (fun q => main 64 (by omega) (by omega)) (fun q => brd (fun q2 => main 64 (by omega) (by omega)) (fun q2 => main max (by omega) (by omega)))
end
end Go.Vc.S11
