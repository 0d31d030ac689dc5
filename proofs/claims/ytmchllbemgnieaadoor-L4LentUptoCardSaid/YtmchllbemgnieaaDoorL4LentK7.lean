import Derived.Test.YtmchllbemgnieaaDoorL4LentK6
import Derived.Test.YtmchllbemgnieaaDoorL4LentK5
import Derived.Recover
import Derived.Test.YtmchllbemgnieaaDoorL4LentK4
section
open Go Go.Vc Go.Proofs
set_option linter.unusedVariables false
set_option linter.unusedSimpArgs false
set_option autoImplicit false
namespace Go.Vc.S9

theorem c30 {a b : Sl} {la lb : List Int} {w : World} {R : SV → World → Prop} (ha : SeesB w a la) (hb : SeesB w b lb) (ba : Byt la) (bb : Byt lb) (k : R (.bool (decide (la = lb))) w) : Ret Tryd.prog 30 [.slice a, .slice b] w R := by
  refine f30_of _ _ _ _ ?_
  unfold vc30
  exact alike (R := fun x => R (.bool x) w) ha hb ba bb k

theorem c40 {b : Sl} {l : List Int} {w : World} {R : SV → World → Prop} (h : SeesB w b l) (hl : l.length ≤ 140737488355328) (k : ∀ s w1, Upd [] [] w w1 → SeesB w1 s l → Own w.heap.size 1 w1 s → R (.slice s) w1) : Ret Tryd.prog 40 [.slice b] w R := by
  refine f40_of _ _ _ ?_
  unfold vc40
  refine append_own (c := cU8) (l := []) (Sees.nil _ _ _ _) (Own.none w.heap.size _ _) h (Nat.le_refl _) (by simp) (by decide) (by simpa using hl) fun r w1 hr ho u _ => ?_
  exact k r w1 (by simpa [Sl.blk] using u) (by simpa using hr) ho

/-- are they the same options? -/
theorem c47 {a b : Sl} {la lb : List Opt} {oa ob : List (Int × Sl)} {w : World} {R : SV → World → Prop} (ha : Opts w a la oa) (hb : Opts w b lb ob) (ba : ∀ o ∈ la, Byt o.data) (bb : ∀ o ∈ lb, Byt o.data) (hl : la.length < 9223372036854775807)
    (k : ∀ w1, Upd [] [] w w1 → R (.bool (decide (la = lb))) w1) : Ret Tryd.prog 47 [.slice a, .slice b] w R := by
  refine f47_of _ _ _ _ ?_
  unfold vc47
  have hal := ha.slen
  have hbl := hb.slen
  refine bre' (fun hne => ?_) (fun heq => ?_)
  · have : la ≠ lb := fun e => hne (by rw [hal, hbl, e])
    rw [decide_eq_false this] at k
    exact k _ (Upd.refl w)
  · have hll : la.length = lb.length := by omega
    refine ⟨fun i w1 => Upd [] [] w w1 ∧ ∃ q : Nat, i = q ∧ q ≤ la.length ∧ ∀ j (h : j < q) (h1 : j < la.length) (h2 : j < lb.length), la[j] = lb[j], fun i _ => (la.length - i).toNat, ⟨Upd.refl w, 0, rfl, by omega, fun j h => by omega⟩, ?_⟩
    rintro i w1 ⟨u, q, rfl, hq, he⟩
    have ha1 := ha.old u
    have hb1 := hb.old u
    refine brd (fun hlt => ?_) (fun hge => ?_)
    · intro J hJ
      have g1 : q < la.length := by omega
      have g2 : q < lb.length := by omega
      obtain ⟨a1, a2, a3, a4⟩ := ha1.get q g1
      obtain ⟨b1, b2, b3, b4⟩ := hb1.get q g2
      refine needO ha1 (by omega) (by omega) ⟨_, (by rw [Int.toNat_natCast]; exact a2), needO hb1 (by omega) (by omega) ⟨_, (by rw [Int.toNat_natCast]; exact b2), fun w2 u2 => ?_⟩⟩
      refine c30 (a3.old u2) (b3.old u2) (ba _ (List.getElem_mem g1)) (bb _ (List.getElem_mem g2)) ⟨_, rfl, ?_⟩
      have a1' := ((ha1.old u2).get q g1).1
      have b1' := ((hb1.old u2).get q g2).1
      have v2 := u.then u2
      refine needO (ha1.old u2) (by omega) (by omega) ⟨_, (by rw [Int.toNat_natCast]; exact a1'), needO (hb1.old u2) (by omega) (by omega) ⟨_, (by rw [Int.toNat_natCast]; exact b1'), ?_⟩⟩
      have bad : la[q] ≠ lb[q] → ∀ w3, Upd [] [] w2 w3 → R (.bool false) w3 := fun hne w3 u3 => by
        have : la ≠ lb := fun e => hne (by subst e; rfl)
        rw [decide_eq_false this] at k
        exact k _ (v2.then u3)
      refine bre' (fun hk => bad (fun e => hk (by rw [e]))) (fun hk => brn (fun hd => bad (fun e => by rw [e] at hd; simp at hd)) (fun hd => fun w3 u3 => hJ _ ⟨⟨v2.then u3, q + 1, wr_succ (by omega), by omega, fun j h h1 h2 => ?_⟩, by rw [wr_succ (q := q) (by omega)]; (try dsimp only); omega⟩))
      by_cases e : j = q
      · subst e
        have hd' : la[j].data = lb[j].data := of_decide_eq_true hd
        have e1 : la[j] = ⟨la[j].kind, la[j].data⟩ := rfl
        rw [e1, hk, hd']
      · exact he j (by omega) h1 h2
    · have : la = lb := List.ext_getElem hll fun j h1 h2 => he j (by omega) h1 h2
      rw [decide_eq_true this] at k
      exact k _ u

theorem optRow {w : World} {b e n cap : Nat} {f : Nat × Nat} {cs : List Value} {x : Int} {s : Sl} (h : w.heap[b]? = some (.cells cs.toArray e f)) (hc : cs = [.int .i64 x, s.val]) (hn : n = 1) : Sees cOpt w ⟨some ⟨b, 0, none⟩, n, cap⟩ [(x, s)] :=
  sees_row h [(x, s)] hc hn

/-- options in new memory -/
theorem c80 {a : Sl} {l : List Opt} {os : List (Int × Sl)} {w : World} {R : SV → World → Prop} (h : Opts w a l os) (hl : l.length ≤ 4398046511104) (hd : ∀ o ∈ l, o.data.length ≤ 140737488355328)
    (k : ∀ s os w1, Upd [] [] w w1 → Opts w1 s l os → Own w.heap.size 2 w1 s → (∀ x ∈ os, Own w.heap.size 1 w1 x.2) → os.Pairwise (fun x y => Apt x.2 y.2) → (∀ x ∈ os, ∀ b ∈ x.2.blk, b ∉ s.blk) → R (.slice s) w1) : Ret Tryd.prog 80 [.slice a] w R := by
  refine f80_of _ _ _ ?_
  unfold vc80
  have hal := h.slen
  refine ⟨fun s i w1 => Upd [] [] w w1 ∧ Own w.heap.size 2 w1 s ∧ ∃ (q : Nat) (os : List (Int × Sl)), i = q ∧ q ≤ l.length ∧ Opts w1 s (l.take q) os ∧ (∀ x ∈ os, Own w.heap.size 1 w1 x.2) ∧ (∀ x ∈ os, ∀ b ∈ x.2.blk, b ∉ s.blk) ∧ os.Pairwise (fun x y => Apt x.2 y.2), fun _ i _ => (l.length - i).toNat,
    ⟨Upd.refl w, Own.none _ _ _, 0, [], rfl, by omega, Opts.nil _ _ _, by simp, by simp, by simp⟩, ?_⟩
  rintro s i w1 ⟨u, o, q, os', rfl, hq, ho, hos, hap, hpw⟩
  have h1 := h.old u
  refine brd (fun hlt => ?_) (fun hge => ?_)
  · have hq2 : q < l.length := by omega
    obtain ⟨g1, g2, g3, g4⟩ := h1.get q hq2
    refine needO h1 (by omega) (by omega) ⟨_, (by rw [Int.toNat_natCast]; exact g1), needO h1 (by omega) (by omega) ⟨_, (by rw [Int.toNat_natCast]; exact g2), fun w2 u2 => ?_⟩⟩
    refine c40 (g3.old u2) (hd _ (List.getElem_mem hq2)) fun d w3 u3 hs3 ho3 => ⟨_, rfl, u2.then u3, ?_⟩
    have v3 := (u.then u2).then u3
    intro b w4 u4 hr4
    have v4 := v3.then u4
    have y2 := u2.size; have y3 := u3.size; have y4 := u4.size
    have o4 := ((o.old u2).old u3).old u4
    have hO4 := ((ho.old u2).old u3).old u4
    refine append_own (c := cOpt) (new := [(l[q].kind, d)]) hO4.row o4 (optRow hr4 rfl rfl) v4.size (by simp) (by decide) (by simp [hO4.len]; omega) fun r w5 hr ho5 u5 hn => ?_
    have dis : ∀ x ∈ d.blk, x ∉ s.blk := fun x hx hm => by have := (ho3.blk x hx).1; have := (o.blk x hm).2; omega
    have hd5 := (hs3.old u4).upd u5 dis
    have hOs := Opts.snoc (o := l[q]) hO4 hr hd5 (fun j h2 => (hO4.each j h2).upd u5 (hap _ (List.getElem_mem _)))
    refine ⟨⟨v4.step0 u5 (fun x hx => (o.blk x hx).1), ho5, q + 1, os' ++ [(l[q].kind, d)], wr_succ (by omega), by omega, by rw [take_snoc hq2]; exact hOs, ?_, ?_, ?_⟩, by rw [wr_succ (q := q) (by omega)]; (try dsimp only); omega⟩
    · intro x hx
      rcases List.mem_append.1 hx with hx | hx
      · exact ((((hos x hx).old u2).old u3).old u4).upd u5 (hap x hx)
      · rw [List.mem_singleton] at hx
        subst hx
        exact ((ho3.old u4).upd u5 dis).mono (by have := u.size; omega)
    · intro x hx b' hb' hm
      rcases List.mem_append.1 hx with hx | hx
      · rcases hn b' hm with h' | h'
        · exact hap x hx b' hb' h'
        · have := ((hos x hx).blk b' hb').2; omega
      · rw [List.mem_singleton] at hx
        subst hx
        rcases hn b' hm with h' | h'
        · exact dis b' hb' h'
        · have := (ho3.blk b' hb').2; omega
    · rw [List.pairwise_append]
      refine ⟨hpw, by simp, fun x hx y hy b hb hm => ?_⟩
      rw [List.mem_singleton] at hy
      subst hy
      have := ((hos x hx).blk b hb).2
      have := (ho3.blk b hm).1
      omega
  · have : q = l.length := by omega
    subst this
    rw [List.take_length] at ho
    exact k s os' w1 u ho o hos hpw hap

/-- what PutOptions answers -/
def putL (l : List Opt) : List Int := if putOk l then putO l else []
def putE (l : List Opt) : Int := if putOk l then 0 else 65
theorem flatMap_snoc {l : List Opt} {q : Nat} (h : q < l.length) : (l.take (q + 1)).flatMap optB = (l.take q).flatMap optB ++ optB l[q] := by rw [take_snoc h, List.flatMap_append]; simp [List.flatMap_cons]
theorem flatMap_le (l : List Opt) (q : Nat) : ((l.take q).flatMap optB).length ≤ (l.flatMap optB).length := by
  have := congrArg List.length (congrArg (fun x => x.flatMap optB) (List.take_append_drop q l))
  simp only [List.flatMap_append, List.length_append] at this
  omega

/-- the zeros behind -/
theorem pad_loop {w w0 : World} {s : Sl} {l : List Int} {e e' : Nat} {K : Sl → World → Prop} {D : Sl → Bool} {C : (Sl → World → Prop) → (Sl → World → Nat) → Sl → World → Sl → World → Prop}
    (u : Upd [] [] w0 w) (h : SeesB w s l) (o : Own w0.heap.size 1 w s) (hl : l.length ≤ 70368744177664)
    (hD : ∀ s, D s = decide (s.len % 4 ≠ 0))
    (hC : ∀ (I : Sl → World → Prop) (M : Sl → World → Nat) s w r w', I r w' → M r w' < M s w → C I M s w r w')
    (k : ∀ s w1, Upd [] [] w0 w1 → SeesB w1 s (pad4 l) → Own w0.heap.size 1 w1 s → K s w1) :
    ∃ (I : Sl → World → Prop), ∃ (M : Sl → World → Nat), I s w ∧ ∀ (s : Sl) (w1 : World), I s w1 →
      Br (D s) (∀ (b : Nat) (w2 : World), Upd [] [b] w1 w2 → w2.heap[b]? = some (.cells (SV.struct [.int .u8 0]).cells.toArray e (0, 0)) → Append e' 1 1 s ⟨some ⟨b, 0, none⟩, 1, 1⟩ [] w2 fun r w3 => C I M s w1 r w3) (K s w1) := by
  refine ⟨fun s w1 => Upd [] [] w0 w1 ∧ Own w0.heap.size 1 w1 s ∧ ∃ n : Nat, n ≤ (4 - l.length % 4) % 4 ∧ SeesB w1 s (l ++ List.replicate n 0), fun s _ => (4 - s.len % 4) % 4, ⟨u, o, 0, by omega, by simpa using h⟩, ?_⟩
  rintro s w1 ⟨u, o, n, hn, hs⟩
  have hlen := hs.len
  rw [List.length_append, List.length_replicate] at hlen
  rw [hD]
  refine brd (fun hne => ?_) (fun he => ?_)
  · intro b w2 u2 hr2
    have o2 := o.old u2
    have v2 := u.then u2
    refine append_own (c := cU8) (new := [0]) (hs.old u2) o2 (rowB hr2 _ rfl rfl) v2.size (by simp) (by decide) (by simp; omega) fun r w3 hr3 ho3 u3 _ => ?_
    have hrl := hr3.len
    simp at hrl
    refine hC _ _ _ _ _ _ ⟨v2.step0 u3 (fun x hx => (o2.blk x hx).1), ho3, n + 1, by omega, ?_⟩ (by (try dsimp only); omega)
    rw [List.replicate_succ', ← List.append_assoc]
    exact hr3
  · have : n = (4 - l.length % 4) % 4 := by
      have : s.len % 4 = 0 := by omega
      omega
    subst this
    exact k s w1 u hs o

/-- what PutTcpOptions answers -/
def putL9 (l : List Opt) : List Int := if putOk9 l then putO l else []
def putE9 (l : List Opt) : Int := if putOk9 l then 0 else 97
theorem putL9_len (l : List Opt) : (putL9 l).length ≤ 40 := by
  unfold putL9
  split
  · rename_i h; exact (putO_len h.1).1
  · simp
theorem c39 {a : Sl} {l : List Opt} {os : List (Int × Sl)} {w : World} {R : SV → World → Prop} (hg : Lens w) (h : Opts w a l os) (hl : l.length < 9223372036854775807) (hd : ∀ o ∈ l, o.data.length ≤ 140737488355328)
    (k : ∀ s w1, Upd [] [] w w1 → SeesB w1 s (putL9 l) → Own w.heap.size 1 w1 s → R (.tuple [.slice s, .int .i64 (putE9 l)]) w1) : Ret Tryd.prog 39 [.slice a] w R := by
  refine f39_of _ _ _ ?_
  unfold vc39
  have hal := h.slen
  have bad : ¬ putOk9 l → ∀ w1, Upd [] [] w w1 → R (.tuple [.slice ⟨none, 0, 0⟩, .int .i64 97]) w1 := fun hn w1 u => by
    have := k ⟨none, 0, 0⟩ w1 u (by unfold putL9; rw [if_neg hn]; exact Sees.nil _ _ _ _) (Own.none _ _ _)
    unfold putE9 at this
    rwa [if_neg hn] at this
  refine ⟨fun s i w1 => Upd [] [] w w1 ∧ Own w.heap.size 1 w1 s ∧ ∃ q : Nat, i = q ∧ q ≤ l.length ∧ SeesB w1 s ((l.take q).flatMap optB) ∧ ((l.take q).flatMap optB).length ≤ 40 ∧ ∀ j (h : j < l.length), j < q → okO l[j] ∧ ok9 l[j].kind ((2 + l[j].data.length : Nat) : Int) = true, fun _ i _ => (l.length - i).toNat,
    ⟨Upd.refl w, Own.none _ _ _, 0, rfl, by omega, Sees.nil _ _ _ _, by simp, fun j _ h => by omega⟩, ?_⟩
  rintro s i w1 ⟨u, o, q, rfl, hq, hs, h40, hj⟩
  have h1 := h.old u
  have hsl := hs.len
  refine brd (fun hlt => ?_) (fun hge => ?_)
  · have hq2 : q < l.length := by omega
    obtain ⟨g1, g2, g3, g4⟩ := h1.get q hq2
    have gl := g3.len
    have gd := hd _ (List.getElem_mem hq2)
    refine needO h1 (by omega) (by omega) ⟨_, (by rw [Int.toNat_natCast]; exact g1), _, (by rw [Int.toNat_natCast]; exact g2), ?_⟩
    intro b J hJ
    have fs := flatMap_snoc hq2
    have fl := flatMap_le l (q + 1)
    rw [fs, List.length_append, optB_len] at fl
    have nk : ¬ okO l[q] → ¬ putOk9 l := fun hn hp => hn (hp.1.1 _ (List.getElem_mem hq2))
    have n9 : ok9 l[q].kind ((2 + l[q].data.length : Nat) : Int) = false → ¬ putOk9 l := fun hn hp => by
      have := hp.2 _ (List.getElem_mem hq2)
      rw [hn] at this; cases this
    rw [wr_i64 (x := 2 + ((os[q]'(by rw [h.len]; exact hq2)).2.len : Int)) (by omega) (by omega)]
    have e2 : 2 + ((os[q]'(by rw [h.len]; exact hq2)).2.len : Int) = ((2 + l[q].data.length : Nat) : Int) := by omega
    rw [e2]
    refine brd (fun g => fun w2 u2 => bad (nk (by unfold okO; omega)) _ (u.then u2)) (fun n1 => brd (fun g => fun w2 u2 => bad (nk (by unfold okO; omega)) _ (u.then u2)) (fun n2 => brd (fun g => fun w2 u2 => bad (nk (by unfold okO; omega)) _ (u.then u2)) (fun n3 => ?_)))
    intro w2 u2
    refine c78 (hg.old (u.then u2)) (by omega) (by omega) (by omega) ⟨_, rfl, kp (Upd.refl _), ?_⟩
    refine brn (fun g => bad (n9 g) _ (u.then u2)) (fun n5 => ?_)
    rw [wr_i64 (by omega) (by omega)]
    refine brd (fun g => bad (fun hp => by have := hp.1.2; omega) _ (u.then u2)) (fun n4 => ⟨rfl, hJ _ ?_⟩)
    clear hJ
    intro b1 w3 u3 hr3
    have hbn := u2.new (b := b) (by simp)
    have o3 := (o.old u2).old u3
    have v3 := (u.then u2).then u3
    have hs3 := (hs.old u2).old u3
    rw [wr_i64 (x := 2 + ((os[q]'(by rw [h.len]; exact hq2)).2.len : Int)) (by omega) (by omega), wr_u8, wr_u8, e2] at hr3
    refine append_own (c := cU8) (new := [l[q].kind % 256, ((2 + l[q].data.length : Nat) : Int) % 256]) hs3 o3 (rowB hr3 _ rfl rfl) v3.size (fun x hx hm => by have := (o.blk x hx).2; simp at hm; omega) (by decide) (by simp only [List.length_cons, List.length_nil]; omega) fun r w4 hr ho4 u4 hn4 => ?_
    have hw0 : ∀ x ∈ s.blk, w.heap.size ≤ x := fun x hx => (o.blk x hx).1
    have v4 := v3.step0 u4 hw0
    refine append_own (c := cU8) hr ho4 (h.each q hq2 |>.old v4) v4.size (fun x hx hm => by
      rcases hn4 x hx with h' | h'
      · have := (o.blk x h').2; simp at hm; omega
      · have := u3.size; simp at hm; omega) (by decide) (by simp only [List.length_append, List.length_cons, List.length_nil]; omega) fun r5 w5 hr5 ho5 u5 _ => ?_
    refine ⟨⟨v4.step0 u5 (fun x hx => (ho4.blk x hx).1), ho5, q + 1, wr_succ (by omega), by omega, ?_, ?_, fun j hj1 hj2 => ?_⟩, by rw [wr_succ (q := q) (by omega)]; (try dsimp only); omega⟩
    · rw [fs]
      unfold optB
      rw [← List.append_assoc]
      exact hr5
    · rw [fs, List.length_append, optB_len]; omega
    · by_cases e : j = q
      · subst e; exact ⟨by unfold okO; omega, n5⟩
      · exact hj j hj1 (by omega)
  · have hqe : q = l.length := by omega
    subst hqe
    rw [List.take_length] at hs h40
    have hok : putOk9 l := ⟨⟨fun x hx => by
      obtain ⟨j, hj1, rfl⟩ := List.getElem_of_mem hx
      exact (hj j hj1 (by omega)).1, h40⟩, fun x hx => by
      obtain ⟨j, hj1, rfl⟩ := List.getElem_of_mem hx
      exact (hj j hj1 (by omega)).2⟩
    refine pad_loop u hs o (by omega) (fun s => ?_) (fun I M s w r w' h1 h2 => ⟨h1, h2⟩) (fun s w2 u2 hs2 ho2 => ?_)
    · rw [tmod_pos (by omega)]
      rw [decide_eq_decide]
      omega
    · have := k s w2 u2 (by unfold putL9; rw [if_pos hok]; exact hs2) ho2
      unfold putE9 at this
      rwa [if_pos hok] at this

theorem c91 {a : Sl} {l : List Opt} {os : List (Int × Sl)} {w : World} {R : SV → World → Prop} (h : Opts w a l os) (hl : l.length ≤ 1099511627776) (hd : ∀ o ∈ l, o.data.length ≤ 140737488355328)
    (k : ∀ s w1, Upd [] [] w w1 → SeesB w1 s (putL l) → Own w.heap.size 1 w1 s → R (.tuple [.slice s, .int .i64 (putE l)]) w1) : Ret Tryd.prog 91 [.slice a] w R := by
  refine f91_of _ _ _ ?_
  unfold vc91
  have hal := h.slen
  have bad : ¬ putOk l → ∀ w1, Upd [] [] w w1 → R (.tuple [.slice ⟨none, 0, 0⟩, .int .i64 65]) w1 := fun hn w1 u => by
    have := k ⟨none, 0, 0⟩ w1 u (by unfold putL; rw [if_neg hn]; exact Sees.nil _ _ _ _) (Own.none _ _ _)
    unfold putE at this
    rwa [if_neg hn] at this
  refine ⟨fun s i w1 => Upd [] [] w w1 ∧ Own w.heap.size 1 w1 s ∧ ∃ q : Nat, i = q ∧ q ≤ l.length ∧ SeesB w1 s ((l.take q).flatMap optB) ∧ ((l.take q).flatMap optB).length ≤ 40 * q ∧ ∀ j (h : j < l.length), j < q → okO l[j], fun _ i _ => (l.length - i).toNat,
    ⟨Upd.refl w, Own.none _ _ _, 0, rfl, by omega, Sees.nil _ _ _ _, by simp, fun j _ h => by omega⟩, ?_⟩
  rintro s i w1 ⟨u, o, q, rfl, hq, hs, h40, hj⟩
  have h1 := h.old u
  have hsl := hs.len
  refine brd (fun hlt => ?_) (fun hge => ?_)
  · have hq2 : q < l.length := by omega
    obtain ⟨g1, g2, g3, g4⟩ := h1.get q hq2
    have gl := g3.len
    have gd := hd _ (List.getElem_mem hq2)
    intro J hJ
    refine needO h1 (by omega) (by omega) ⟨_, (by rw [Int.toNat_natCast]; exact g2), ?_⟩
    have fs := flatMap_snoc hq2
    have nk : ¬ okO l[q] → ¬ putOk l := fun hn hp => hn (hp.1 _ (List.getElem_mem hq2))
    intro J1 hJ1
    have good : okO l[q] → J1 w1 := fun hk => by
      refine hJ1 _ ?_
      refine needO h1 (by omega) (by omega) ⟨_, (by rw [Int.toNat_natCast]; exact g1), ?_⟩
      intro b1 w3 u3 hr3
      obtain ⟨k1, k2, k3⟩ := hk
      have o3 := o.old u3
      have v3 := u.then u3
      have hs3 := hs.old u3
      rw [wr_i64 (x := ((os[q]'(by rw [h.len]; exact hq2)).2.len : Int) + 2) (by omega) (by omega), wr_u8, wr_u8] at hr3
      refine append_own (c := cU8) (new := [l[q].kind % 256, ((2 + l[q].data.length : Nat) : Int) % 256]) hs3 o3 (rowB hr3 _ (by rw [gl, Nat.add_comm 2]; rfl) rfl) v3.size (by simp) (by decide) (by simp only [List.length_cons, List.length_nil]; omega) fun r w4 hr ho4 u4 hn4 => ?_
      have hw0 : ∀ x ∈ s.blk, w.heap.size ≤ x := fun x hx => (o.blk x hx).1
      have v4 := v3.step0 u4 hw0
      obtain ⟨_, g2', g3', _⟩ := (h.old v4).get q hq2
      refine needO (h.old v4) (by omega) (by omega) ⟨_, (by rw [Int.toNat_natCast]; exact g2'), ?_⟩
      refine append_own (c := cU8) hr ho4 g3' v4.size (by simp) (by decide) (by simp only [List.length_append, List.length_cons, List.length_nil]; omega) fun r5 w5 hr5 ho5 u5 _ => ?_
      refine hJ _ _ ⟨⟨v4.step0 u5 (fun x hx => (ho4.blk x hx).1), ho5, q + 1, wr_succ (by omega), by omega, ?_, ?_, fun j hj1 hj2 => ?_⟩, by rw [wr_succ (q := q) (by omega)]; (try dsimp only); omega⟩
      · rw [fs]
        unfold optB
        rw [← List.append_assoc]
        exact hr5
      · rw [fs, List.length_append, optB_len]; omega
      · by_cases e : j = q
        · subst e; exact ⟨k1, k2, k3⟩
        · exact hj j hj1 (by omega)
    refine needO h1 (by omega) (by omega) ⟨_, (by rw [Int.toNat_natCast]; exact g1), ?_⟩
    refine brd (fun g => bad (nk (by unfold okO; omega)) _ u) (fun n1 => needO h1 (by omega) (by omega) ⟨_, (by rw [Int.toNat_natCast]; exact g1), brd (fun g => bad (nk (by unfold okO; omega)) _ u) (fun n2 => brd (fun g => bad (nk (by unfold okO; omega)) _ u) (fun n3 => good (by unfold okO; omega)))⟩)
  · have hqe : q = l.length := by omega
    subst hqe
    rw [List.take_length] at hs h40
    have hall : ∀ x ∈ l, okO x := fun x hx => by
      obtain ⟨j, hj1, rfl⟩ := List.getElem_of_mem hx
      exact hj j hj1 (by omega)
    refine pad_loop u hs o (by omega) (fun s => ?_) (fun I M s w r w' h1 h2 => ⟨h1, h2⟩) (fun s w2 u2 hs2 ho2 => ?_)
    · rw [tmod_pos (by omega)]
      rw [Bool.eq_iff_iff, bne_iff_ne, decide_eq_true_iff]
      omega
    · have hpl := pad4_len (l.flatMap optB)
      have hsl2 := hs2.len
      refine brd (fun g => bad (fun hp => ?_) _ u2) (fun g => ?_)
      · have := hp.2; omega
      · have hok : putOk l := ⟨hall, by omega⟩
        have := k s w2 u2 (by unfold putL; rw [if_pos hok]; exact hs2) ho2
        unfold putE at this
        rwa [if_pos hok] at this

theorem c56 {a : Sl} {l : List Opt} {os : List (Int × Sl)} {w : World} {R : SV → World → Prop} (h : Opts w a l os) (hl : l.length ≤ 1099511627776) (hd : ∀ o ∈ l, o.data.length ≤ 140737488355328)
    (k : ∀ s w1, Upd [] [] w w1 → SeesB w1 s (putL9 l) → Own w.heap.size 1 w1 s → R (.tuple [.slice s, .int .i64 (putE9 l)]) w1) : Ret Tryd.prog 56 [.slice a] w R := by
  refine f56_of _ _ _ ?_
  unfold vc56
  have hal := h.slen
  have bad : ¬ putOk9 l → ∀ w1, Upd [] [] w w1 → R (.tuple [.slice ⟨none, 0, 0⟩, .int .i64 97]) w1 := fun hn w1 u => by
    have := k ⟨none, 0, 0⟩ w1 u (by unfold putL9; rw [if_neg hn]; exact Sees.nil _ _ _ _) (Own.none _ _ _)
    unfold putE9 at this
    rwa [if_neg hn] at this
  refine ⟨fun i w1 => Upd [] [] w w1 ∧ ∃ q : Nat, i = q ∧ q ≤ l.length ∧ ∀ j (h : j < l.length), j < q → ok9 l[j].kind ((2 + l[j].data.length : Nat) : Int) = true, fun i _ => (l.length - i).toNat,
    ⟨Upd.refl w, 0, rfl, by omega, fun j _ h => by omega⟩, ?_⟩
  rintro i w1 ⟨u, q, rfl, hq, hj⟩
  have h1 := h.old u
  refine brd (fun hlt => ?_) (fun hge => ?_)
  · have hq2 : q < l.length := by omega
    obtain ⟨g1, g2, g3, g4⟩ := h1.get q hq2
    have gl := g3.len
    have gd := hd _ (List.getElem_mem hq2)
    refine needO h1 (by omega) (by omega) ⟨_, (by rw [Int.toNat_natCast]; exact g1), needO h1 (by omega) (by omega) ⟨_, (by rw [Int.toNat_natCast]; exact g2), fun w2 u2 => ?_⟩⟩
    rw [wr_i64 (by omega) (by omega)]
    refine c86 ⟨_, rfl, ?_⟩
    have e2 : ((os[q]'(by rw [h.len]; exact hq2)).2.len : Int) + 2 = ((2 + l[q].data.length : Nat) : Int) := by omega
    rw [e2]
    refine brn (fun g => bad (fun hp => by have := hp.2 _ (List.getElem_mem hq2); rw [g] at this; cases this) _ (u.then u2)) (fun n5 => ⟨⟨u.then u2, q + 1, wr_succ (by omega), by omega, fun j hj1 hj2 => ?_⟩, by rw [wr_succ (q := q) (by omega)]; (try dsimp only); omega⟩)
    by_cases e : j = q
    · subst e; exact n5
    · exact hj j hj1 (by omega)
  · have hqe : q = l.length := by omega
    subst hqe
    have hall : ∀ x ∈ l, ok9 x.kind ((2 + x.data.length : Nat) : Int) = true := fun x hx => by
      obtain ⟨j, hj1, rfl⟩ := List.getElem_of_mem hx
      exact hj j hj1 (by omega)
    refine c91 h1 hl hd fun s w2 u2 hs ho => ⟨_, _, rfl, ?_⟩
    have v2 := u.then u2
    unfold putE
    by_cases hp : putOk l
    · rw [if_pos hp]
      have hok : putOk9 l := ⟨hp, hall⟩
      have := k s w2 v2 (by unfold putL9; rw [if_pos hok]; unfold putL at hs; rw [if_pos hp] at hs; exact hs) (ho.mono u.size)
      unfold putE9 at this
      rw [if_pos hok] at this
      exact brf (by simp) this
    · rw [if_neg hp]
      exact brt (by simp) (bad (fun h => hp h.1) _ v2)
end Go.Vc.S9
end

section
open Go Go.Vc Go.Proofs
set_option linter.unusedVariables false
set_option linter.unusedSimpArgs false
set_option autoImplicit false
namespace Go.Vc.S9
abbrev adr (v : Int) (a : Nat → Int) : SV := .struct [.int .i64 v, .arr .u8 16 a]
section
variable {e : Ends} {w : World} {R : SV → World → Prop}
theorem c70 (k : ∀ w1, Upd [] [] w w1 → R (.int .i64 (if e.fit then 0 else 20)) w1) : Ret Tryd.prog 70 [adr e.sv e.sa, adr e.dv e.da] w R := by
  refine f70_of _ _ _ _ _ _ ?_
  unfold vc70
  intro b b1 w1 u1
  refine c22 fun s w2 u2 _ _ => ⟨_, _, rfl, kp u2, ?_⟩
  have := k w2 (u1.then u2)
  by_cases h : e.fit
  · rw [(psE_fit h (p := 0) (n := 0) (by omega) (by omega)).1]; rwa [if_pos h] at this
  · rw [(psE_no h (p := 0) (n := 0)).1]; rwa [if_neg h] at this
theorem c83 (k : ∀ w1, Upd [] [] w w1 → R (.bool (decide e.fit)) w1) : Ret Tryd.prog 83 [adr e.sv e.sa, adr e.dv e.da] w R := by
  refine f83_of _ _ _ _ _ _ ?_
  unfold vc83
  intro b b1 w1 u1
  refine c102 fun s w2 u2 _ _ => ⟨_, _, rfl, kp u2, ?_⟩
  have := k w2 (u1.then u2)
  by_cases h : e.fit
  · rw [(psE_fit h (p := 0) (n := 0) (by omega) (by omega)).1]; rw [decide_eq_true h] at this; exact this
  · rw [(psE_no h (p := 0) (n := 0)).1]; rw [decide_eq_false h] at this; exact this
section
variable {p : Int} {b : Sl} {l : List Int}
theorem c74 (hf : e.fit) (o : e.Ok) (hp : 0 ≤ p ∧ p ≤ 255) (h : SeesB w b l) (hb : Byt l) (hl : l.length ≤ 65535) (k : ∀ w1, Upd [] [] w w1 → R (.bool (psum e p l == 65535)) w1) : Ret Tryd.prog 74 [adr e.sv e.sa, adr e.dv e.da, .int .i64 p, .slice b] w R := by
  refine f74_of _ _ _ _ _ _ _ _ ?_
  unfold vc74
  intro b1 b2 w1 u1
  have hbl := h.len
  obtain ⟨e1, e2⟩ := psE_fit hf hp (n := (b.len : Int)) (by omega)
  refine c22 fun s w2 u2 hs _ => ⟨_, _, rfl, kp u2, ?_⟩
  rw [e1]
  rw [e2] at hs
  have v2 := u1.then u2
  refine brt rfl ?_
  intro b3 w3 u3 hr3
  have hP := rowP (n := 2) (cap := 2) hr3 (ss := [s, b]) rfl rfl (ls := [psB e p (b.len : Int), l]) ⟨hs.old u3, h.old (v2.then u3), trivial⟩
  have hpl := psB_len e p (b.len : Int)
  refine c24 hP (by simp; exact ⟨psB_byt o, hb⟩) (by simp) (by simp; omega) ⟨_, rfl, kp (Upd.refl _), ?_⟩
  have := k w3 (v2.then u3)
  unfold psum at this
  rw [← hbl] at this
  simpa using this
theorem c90 (hf : e.fit) (o : e.Ok) (hp : 0 ≤ p ∧ p ≤ 255) (h : SeesB w b l) (hb : Byt l) (hl : l.length ≤ 65535) (k : ∀ w1, Upd [] [] w w1 → R (.int .i64 (65535 - psum e p l)) w1) : Ret Tryd.prog 90 [adr e.sv e.sa, adr e.dv e.da, .int .i64 p, .slice b] w R := by
  refine f90_of _ _ _ _ _ _ _ _ ?_
  unfold vc90
  intro b1 b2 w1 u1
  have hbl := h.len
  obtain ⟨e1, e2⟩ := psE_fit hf hp (n := (b.len : Int)) (by omega)
  refine c102 fun s w2 u2 hs _ => ⟨_, _, rfl, kp u2, ?_⟩
  rw [e2] at hs
  have v2 := u1.then u2
  intro b3 w3 u3 hr3
  have hP := rowP (n := 2) (cap := 2) hr3 (ss := [s, b]) rfl rfl (ls := [psB e p (b.len : Int), l]) ⟨hs.old u3, h.old (v2.then u3), trivial⟩
  have hpl := psB_len e p (b.len : Int)
  refine c104 hP (by simp; exact ⟨psB_byt o, hb⟩) (by simp) (by simp; omega) ⟨_, rfl, kp (Upd.refl _), ?_⟩
  have := k w3 (v2.then u3)
  unfold psum at this
  rw [← hbl] at this
  simpa using this
theorem c84 {i n : Nat} (h : SeesB w b l) (hb : Byt l) (hl : i + n ≤ l.length) (hll : l.length < 9223372036854775000) (hn : n ≤ 4) (k : R (.int .i64 (bitsN l (8 * i) (8 * n))) w) : Ret Tryd.prog 84 [.slice b, .int .i64 (i : Int), .int .i64 (n : Int)] w R := by
  refine f84_of _ _ _ _ _ ?_
  unfold vc84
  refine ⟨fun v j w1 => w1 = w ∧ ∃ q : Nat, j = q ∧ q ≤ n ∧ v = bitsN l (8 * i) (8 * q), fun _ j _ => (n - j).toNat, ⟨rfl, 0, rfl, by omega, rfl⟩, ?_⟩
  rintro v j w1 ⟨rfl, q, rfl, hq, rfl⟩
  refine brd (fun hlt => ?_) (fun hge => ?_)
  · have hq2 : q < n := by omega
    rw [wr_i64 (x := (i : Int) + q) (by omega) (by omega)]
    refine needB h (by omega) (by omega) ⟨_, h.byte (by omega) (by omega), ?_⟩
    have hbt := hb.bt ((i : Int) + q)
    have hr := bitsN_r l (8 * i) (8 * q)
    have hp : (2 : Int) ^ (8 * q) ≤ 2 ^ 24 := by exact_mod_cast Nat.pow_le_pow_right (by omega) (by omega)
    rw [wr_i64 (x := bt l ((i : Int) + q)) (by omega) (by omega), wr_i64 (x := 256 * bitsN l (8 * i) (8 * q)) (by omega) (by omega), wr_i64 (by omega) (by omega)]
    refine ⟨⟨rfl, q + 1, wr_succ (by omega), by omega, ?_⟩, by rw [wr_succ (q := q) (by omega)]; (try dsimp only); omega⟩
    have e1 := bitsN_add l (8 * i) (8 * q) 8
    have e2 := bitsN_byte hb (i + q)
    rw [show 8 * i + 8 * q = 8 * (i + q) by omega, e2] at e1
    rw [show 8 * (q + 1) = 8 * q + 8 by omega, e1, show ((i + q : Nat) : Int) = (i : Int) + q by omega]
    omega
  · have : q = n := by omega
    subst this
    exact k
end
theorem c77 {n hi : Int} (k : R (.bool (decide (outN9 n hi))) w) : Ret Tryd.prog 77 [.int .i64 n, .int .i64 hi] w R := by
  refine f77_of _ _ _ _ ?_
  unfold vc77
  refine brd (fun h => ?_) (fun h => ?_)
  · rw [decide_eq_true (show outN9 n hi by unfold outN9; omega)] at k; exact k
  · rw [show decide (outN9 n hi) = decide (n > hi) by rw [decide_eq_decide]; unfold outN9; omega] at k; exact k
theorem c93 {n hi : Int} (k : R (.bool (decide (outN9 n hi))) w) : Ret Tryd.prog 93 [.int .i64 n, .int .i64 hi] w R := by
  refine f93_of _ _ _ _ ?_
  unfold vc93
  refine brd (fun h => ?_) (fun h => ?_)
  · rw [decide_eq_true (show outN9 n hi by unfold outN9; omega)] at k; exact k
  · rw [show decide (outN9 n hi) = decide (n > hi) by rw [decide_eq_decide]; unfold outN9; omega] at k; exact k
theorem c20 {n : Int} (k : R (.int .i64 n) w) : Ret Tryd.prog 20 [.int .i64 n] w R := f20_of _ _ _ k
end
end Go.Vc.S9
end

section
open Go Go.Vc Go.Proofs
set_option linter.unusedVariables false
set_option linter.unusedSimpArgs false
set_option autoImplicit false
namespace Go.Vc.S9

/-- options read: windows -/
theorem ok9_f {k n : Int} (h : n < 2) : ok9 k n = false := by unfold ok9; rw [decide_eq_false (by omega)]; rfl
theorem c33 {b : Sl} {l : List Int} {w : World} {R : SV → World → Prop} (hg' : Lens w) (h : SeesB w b l) (hb : Byt l) (hc : b.len ≤ b.cap) (hl : l.length < 9223372036854775807)
    (ke : ∀ w1, Upd [] [] w w1 → optsP ok9 l = none → R (.tuple [.slice ⟨none, 0, 0⟩, .int .i64 97]) w1)
    (ko : ∀ ps s w1, optsP ok9 l = some ps → Upd [] [] w w1 → Sees cOpt w1 s (ps.map (osAt b l)) → Own w.heap.size 2 w1 s → R (.tuple [.slice s, .int .i64 0]) w1) : Ret Tryd.prog 33 [.slice b] w R := by
  refine f33_of _ _ _ ?_
  unfold vc33
  have hlen := h.len
  unfold optsP at ke ko
  refine brd (fun hg => ke _ (Upd.refl w) (by rw [if_pos (by omega)])) (fun hg => ?_)
  rw [if_neg (by omega)] at ke ko
  generalize hG : opos ok9 l (l.length + 1) 0 [] = G at ke ko
  intro J0 hJ0
  refine ⟨fun s n w1 => Upd [] [] w w1 ∧ Own w.heap.size 2 w1 s ∧ ∃ (t f : Nat) (acc : List (Nat × Nat)), n = t ∧ t ≤ l.length ∧ l.length + 1 ≤ f + t ∧ acc.length ≤ t ∧ Sees cOpt w1 s (acc.map (osAt b l)) ∧ opos ok9 l f t acc = G,
    fun _ n _ => (l.length - n).toNat, ⟨Upd.refl w, Own.none _ _ _, 0, l.length + 1, [], rfl, by omega, by omega, by simp, Sees.nil _ _ _ _, hG⟩, ?_⟩
  rintro s n w1 ⟨u, o, t, f, acc, rfl, ht, hf, ha, hs, hp⟩
  have h1 := h.old u
  obtain ⟨f, rfl⟩ : ∃ g, f = g + 1 := ⟨f - 1, by omega⟩
  unfold opos at hp
  refine brd (fun hlt => ?_) (fun hge => ?_)
  · have b0 := hb.bt (t : Int)
    rw [if_neg (by omega)] at hp
    refine needB h1 (by omega) (by omega) ⟨_, h1.byte (by omega) (by omega), ?_⟩
    rw [wr_i64 (x := bt l (t : Int)) (by omega) (by omega)]
    refine bre (fun e => ?_) (fun ne0 => ?_)
    · rw [if_pos e] at hp
      exact hJ0 _ _ (ko acc s w1 hp.symm u hs o)
    rw [if_neg ne0] at hp
    refine bre (fun e => ?_) (fun ne1 => ?_)
    · rw [if_pos e] at hp
      exact ⟨⟨u, o, t + 1, f, acc, wr_succ (by omega), by omega, by omega, by omega, hs, hp⟩, by rw [wr_succ (q := t) (by omega)]; (try dsimp only); omega⟩
    rw [if_neg ne1] at hp
    rw [wr_succ (q := t) (by omega)]
    refine bre (fun e => ke _ u (by rw [← hp, if_pos (by omega)])) (fun ne2 => ?_)
    rw [if_neg (by omega)] at hp
    have b1 := hb.bt ((t + 1 : Nat) : Int)
    refine needB h1 (by omega) (by omega) ⟨_, h1.byte (by omega) (by omega), fun J hJ => ?_⟩
    rw [wr_i64 (x := bt l ((t + 1 : Nat) : Int)) (by omega) (by omega), wr_i64 (x := (t : Int) + bt l ((t + 1 : Nat) : Int)) (by omega) (by omega)]
    refine brd (fun hg => ke _ u (by rw [← hp, if_pos (ok9_f hg)])) (fun n2 => ?_)
    refine brd (fun hg => ke _ u (by rw [← hp]; split; rfl; rw [if_pos (by omega)])) (fun n3 => ?_)
    refine c78 (hg'.old u) (by omega) (by omega) (by omega) ⟨_, rfl, brn (fun g => ke _ u (by rw [← hp, if_pos g])) (fun g => hJ _ ?_)⟩
    rw [if_neg (by rw [g]; decide), if_neg (by omega)] at hp
    clear hJ
    generalize hm : bt l ((t + 1 : Nat) : Int) = m at *
    have em : m = (m.toNat : Int) := by omega
    rw [wr_i64 (x := m) (by omega) (by omega), wr_i64 (x := (t : Int) + m) (by omega) (by omega), wr_i64 (x := (t : Int) + 2) (by omega) (by omega)]
    refine need (by simp; omega) ?_
    intro b2 w2 u2 hr2
    rw [show ((t : Int) + m).toNat = t + m.toNat by omega, show ((t : Int) + 2).toNat = t + 2 by omega] at hr2
    rw [show (t : Int) + m = ((t + m.toNat : Nat) : Int) by omega]
    have o2 := o.old u2
    have v2 := u.then u2
    refine append_own (c := cOpt) (new := [osAt b l (t, t + m.toNat)]) (hs.old u2) o2 (sees_row hr2 _ rfl rfl) v2.size (by simp) (by decide) (by simp; omega) fun r w3 hr ho3 u3 _ => ?_
    refine ⟨⟨v2.step0 u3 (fun x hx => (o2.blk x hx).1), ho3, t + m.toNat, f, acc ++ [(t, t + m.toNat)], rfl, by omega, by omega, by simp; omega, by simpa using hr, hp⟩, by (try dsimp only); omega⟩
  · rw [if_pos (by omega)] at hp
    exact hJ0 _ _ (ko acc s w1 hp.symm u hs o)

end Go.Vc.S9
end

section
open Go Go.Vc Go.Proofs
set_option linter.unusedVariables false
set_option linter.unusedSimpArgs false
set_option autoImplicit false
namespace Go.Vc.S9

/-- may these be widths? -/
structure Wid (ws : List Int) : Prop where
  len : ws.length ≤ 64
  each : ∀ x ∈ ws, 1 ≤ x ∧ x ≤ 32
  whole : wsum ws % 8 = 0
theorem Wid.le {ws : List Int} (h : Wid ws) : wsum ws ≤ 2048 := by
  have h1 := wsum_le (l := ws) (m := 32) fun x hx => (h.each x hx).2
  have := h.len
  omega

theorem c97 {widths : Sl} {ws : List Int} {w : World} {R : SV → World → Prop} (h : Sees cI64 w widths ws) (v : Wid ws) (k : R (.tuple [.int .i64 ((wsum ws / 8 : Nat) : Int), .int .i64 0]) w) : Ret Tryd.prog 97 [.slice widths] w R := by
  refine f97_of _ _ _ ?_
  unfold vc97
  have hlen := h.len
  have hv := v.len
  have hle := v.le
  refine brd (fun hg => absurd hg (by omega)) (fun _ => ?_)
  refine ⟨fun n i w1 => w1 = w ∧ ∃ q : Nat, i = q ∧ q ≤ ws.length ∧ n = (wsum (ws.take q) : Nat), fun _ i _ => (ws.length - i).toNat, ⟨rfl, 0, rfl, by omega, by simp [wsum]⟩, ?_⟩
  rintro n i w1 ⟨rfl, q, rfl, hq, rfl⟩
  have hb := wsum_take_le ws q
  refine brd (fun hlt => ?_) (fun hge => ?_)
  · have hq2 : q < ws.length := by omega
    refine needI h (by omega) (by omega) ⟨_, (by rw [Int.toNat_natCast]; exact intAt h q hq2), fun J hJ => ?_⟩
    have := v.each _ (List.getElem_mem hq2)
    refine brd (fun hg => absurd hg (by omega)) (fun _ => brd (fun hg => absurd hg (by omega)) (fun _ => hJ _ ⟨⟨rfl, q + 1, wr_succ (by omega), by omega, ?_⟩, by rw [wr_succ (by omega)]; (try dsimp only); omega⟩))
    rw [wr_i64 (by omega) (by omega), wsum_take_succ hq2]
    omega
  · have : q = ws.length := by omega
    subst this
    rw [List.take_length] at hb ⊢
    have hw := v.whole
    rw [tmod_pos (by omega)]
    refine bre' (fun hn => absurd hn (by omega)) (fun _ => ?_)
    rw [tdiv_pos (by omega), wr_i64 (by omega) (by omega)]
    exact k

theorem c100 {b : Sl} {l : List Int} {i : Int} {w : World} {R : SV → World → Prop} (h : SeesB w b l) (h0 : 0 ≤ i) (h1 : i < l.length) (k : R (.int .u8 (bt l i)) w) : Ret Tryd.prog 100 [.slice b, .int .i64 i] w R := by
  refine f100_of _ _ _ _ ?_
  unfold vc100
  have hlen := h.len
  refine fun J hJ => brd (fun hg => absurd hg (by omega)) (fun _ => brd (fun hg => absurd hg (by omega)) (fun _ => hJ _ ?_))
  exact needB h h0 h1 ⟨_, h.byte h0 h1, k⟩

theorem bt_take8 {l : List Int} {n i : Nat} (h : i < n) : bt (l.take n) (i : Int) = bt l (i : Int) := by
  simp only [bt, Int.toNat_natCast, List.getD_eq_getElem?_getD]
  rw [List.getElem?_take_of_lt h]

theorem c99 {b : Sl} {p n : Nat} {w : World} {R : SV → World → Prop} (h1 : p + n ≤ b.len) (hc : b.len ≤ b.cap) (hl : b.len < 9223372036854775807) (k : R (.slice (b.sub 1 p (p + n) (p + n))) w) : Ret Tryd.prog 99 [.slice b, .int .i64 (p : Int), .int .i64 (n : Int)] w R := by
  refine f99_of _ _ _ _ _ ?_
  unfold vc99
  intro J hJ
  rw [wr_i64 (x := (b.len : Int) - p) (by omega) (by omega)]
  refine brd (fun hg => absurd hg (by omega)) (fun _ => brd (fun hg => absurd hg (by omega)) (fun _ => brd (fun hg => absurd hg (by omega)) (fun _ => hJ _ ?_)))
  rw [wr_i64 (x := (p : Int) + n) (by omega) (by omega)]
  rw [show ((p : Int) + (n : Int)).toNat = p + n by omega, Int.toNat_natCast]
  exact need (by simp; omega) k

theorem c98 {p q r : Option Addr} {w : World} {Q : World → Prop} (hq : Q w) : RetD Tryd.prog 98 [.ptr p, .ptr q, .ptr r] w Q := by
  unfold RetD
  refine callsD_of_wpS Tryd.func98 (c := _) rfl fun c₀ cs hu => ?_
  refine wpS_seq (wpS_region ?_)
  have et : ({ tmps := (SV.encL [SV.ptr p, SV.ptr q, SV.ptr r]).toArray ++ Array.replicate (Tryd.f98.ntmps - (SV.encL [SV.ptr p, SV.ptr q, SV.ptr r]).toArray.size) undef, defers := [] } : Act) = { tmps := #[.pointer p, .pointer q, .pointer r, undef, undef], defers := [] } := rfl
  rw [et]
  simp only [List.size_toArray, List.length_cons, List.length_nil, List.range, List.range.loop, wpOpsS]
  simp only [List.getElem?_toArray, List.getElem?_cons_zero, List.getElem?_cons_succ, Region.wanted]
  have h1 : ∀ (a : Act) (w : World) (ty : Nat) (pos : String), (execOp a.eval { dst := some 3, op := Op.call { callee := Callee.builtin Builtin.recover, args := #[], argTypes := #[] }, type := ty, pos := pos, after := #[], guard := none }).run Tryd.prog w = .ok .recover w := fun a w ty pos => rfl
  simp only [h1, recoverD, hu, if_true, ite_true]
  have e2 : ({ tmps := #[.pointer p, .pointer q, .pointer r, undef, undef], defers := [] } : Act).put (some 3) Value.nilIface = { tmps := #[.pointer p, .pointer q, .pointer r, .nilIface, undef], defers := [] } := rfl
  rw [e2]
  have h2 : (execOp ({ tmps := #[.pointer p, .pointer q, .pointer r, .nilIface, undef], defers := [] } : Act).eval { dst := some 4, op := Op.binOp BinOp.neq 20 (Operand.tmp 3) (Operand.const Value.nilIface) 20, type := 4, pos := "view.go:80", after := #[{ on := 0, ground := Ground.data }], guard := none }).run Tryd.prog w = .ok (.value (.bool false)) w := by
    kernel_rfl
  rw [h2]
  simp only [Oper.upon]
  refine wpS_cond (t := false) rfl ?_
  refine wpS_of_wp (wp_skip ?_)
  have h3 : ∀ t : Array Value, ∃ v, (results Tryd.f98 t).run Tryd.prog w = .ok v w := fun t => ⟨.tuple #[], by
    have : results Tryd.f98 t = pure (.tuple #[]) := by
      unfold results
      rw [show Tryd.f98.results = #[] from rfl]
      simp
    rw [this]; rfl⟩
  obtain ⟨v, hv⟩ := h3 _
  exact ⟨rfl, .returning, by rw [← hu], v, hv, ⟨_, rfl⟩, rfl, hq⟩

/-- the fields of bytes from place 0 on -/
theorem c73 {b widths : Sl} {l ws : List Int} {w : World} {R : SV → World → Prop} (h : SeesB w b l) (hb : Byt l) (hc : b.len ≤ b.cap) (hl : l.length < 9223372036854775807) (hw : Sees cI64 w widths ws) (v : Wid ws) (hn : wsum ws / 8 ≤ l.length)
    (k : ∀ r n w1, Upd [] [] w w1 → Sees cI64 w1 r (fieldsOf l 0 ws) → R (.tuple [.slice r, .int .i64 n, .int .i64 0]) w1) : Ret Tryd.prog 73 [.slice b, .int .i64 0, .slice widths] w R := by
  refine f73_of _ _ _ _ _ ?_
  unfold vc73
  intro b1 b2 b3 w1 u1
  have hlen := h.len
  have hwl := hw.len
  have hv := v.len
  have hle := v.le
  have hwhole := v.whole
  refine c97 (hw.old u1) v ⟨_, _, rfl, kp (Upd.refl _), brf (by simp) fun w2 u2 => ?_⟩
  have n1 := u1.new (b := b1) (by simp)
  have n2 := u1.new (b := b2) (by simp)
  have n3 := u1.new (b := b3) (by simp)
  intro r1 o1 r2 o2 r3
  have v2 : Upd [] [] w w2 := u1.step0 u2 (by simp; omega)
  have d12 : b1 ≠ b2 := fun e => o1 (by simp [e])
  have d13 : b1 ≠ b3 := fun e => o1 (by simp [e])
  have d23 : b2 ≠ b3 := fun e => o2 (by simp [e])
  have B1 : Box cSl w2 b1 ⟨none, 0, 0⟩ := .mk' r1 rfl
  have B2 : Box cI64 w2 b2 0 := .mk' r2 rfl
  have B3 : Box cI64 w2 b3 0 := .mk' r3 rfl
  refine c99 (b := b) (p := 0) (n := wsum ws / 8) (by omega) hc (by omega) ⟨_, rfl, ?_⟩
  have hz := v2.size
  generalize hm : wsum ws / 8 = m at *
  refine ⟨fun t i w' => Upd [] [] w w' ∧ ∃ (q : Nat) (s : Sl), i = q ∧ q ≤ ws.length ∧ t = (wsum (ws.take q) : Nat) ∧ Box cSl w' b1 s ∧ Box cI64 w' b2 0 ∧ Box cI64 w' b3 0 ∧ Sees cI64 w' s (fieldsOf l 0 (ws.take q)) ∧ Own w2.heap.size 1 w' s ∧ w2.heap.size ≤ w'.heap.size,
    fun _ i _ => (ws.length - i).toNat, ⟨v2, 0, _, rfl, by omega, by simp [wsum], B1, B2, B3, Sees.nil _ _ _ _, Own.none _ _ _, Nat.le_refl _⟩, ?_⟩
  rintro t i w3 ⟨v3, q, s, rfl, hq, rfl, C1, C2, C3, hs, ho, z3⟩
  have hw3 := hw.old v3
  have h3 := h.old v3
  have hsub : SeesB w3 (b.sub 1 0 (0 + m) (0 + m)) (l.take m) := by
    have := h3.subB (lo := 0) (hi := m) (mx := m) (by omega) (by omega) (by omega)
    simpa using this
  have hlt1 := C1.lt
  refine brd (fun hlt => ?_) (fun hge => ?_)
  · have hq2 : q < ws.length := by omega
    have hwq := v.each _ (List.getElem_mem hq2)
    have hts := wsum_take_succ hq2
    have htl := wsum_take_le ws (q + 1)
    refine needI hw3 (by omega) (by omega) ⟨_, (by rw [Int.toNat_natCast]; exact intAt hw3 q hq2), ?_⟩
    refine ⟨fun t' a i' w' => w' = w3 ∧ ∃ n : Nat, i' = n ∧ n ≤ (ws[q]).toNat ∧ t' = (wsum (ws.take q) + n : Nat) ∧ a = bitsN l (wsum (ws.take q)) n, fun _ _ i' _ => (ws[q] - i').toNat, ⟨rfl, 0, rfl, by omega, by simp, rfl⟩, ?_⟩
    rintro t' a i' w' ⟨rfl, n, rfl, hn1, rfl, rfl⟩
    refine brd (fun hlt2 => ?_) (fun hge2 => ?_)
    · have hbr := bitsN_r l (wsum (ws.take q)) n
      have hp : (2 : Int) ^ n ≤ 2 ^ 31 := by exact_mod_cast Nat.pow_le_pow_right (by omega) (by omega)
      have et : wr .i64 (Int.tdiv ((wsum (ws.take q) + n : Nat) : Int) 8) = (((wsum (ws.take q) + n) / 8 : Nat) : Int) := by rw [tdiv_pos (by omega), wr_i64 (by omega) (by omega)]; omega
      rw [et]
      refine c100 hsub (by omega) (by simp; omega) ⟨_, rfl, ?_⟩
      rw [bt_take8 (by omega)]
      have hbt := hb.bt (((wsum (ws.take q) + n) / 8 : Nat) : Int)
      refine need (by rw [tmod_pos (by omega), u64_id (n := ((wsum (ws.take q) + n : Nat) : Int) % 8) (by omega) (by omega), u64_id (by omega) (by omega)]; simp; omega) ?_
      rw [bit_step hbt (by omega)]
      refine ⟨⟨rfl, n + 1, wr_succ (by omega), by omega, by rw [wr_i64 (by omega) (by omega)]; omega, rfl⟩, by rw [wr_succ (q := n) (by omega)]; (try dsimp only); omega⟩
    · have hnq : n = (ws[q]).toNat := by omega
      subst hnq
      refine ⟨_, C1.sl, ?_⟩
      intro b4 w4 u4 hr4
      have ho4 := ho.old u4
      refine append_own (c := cI64) (new := [bitsN l (wsum (ws.take q)) (ws[q]).toNat]) (hs.old u4) ho4 (sees_row hr4 _ rfl rfl) (by have := u4.size; omega) (by simp) (by decide) (by simp [fieldsOf_len]; omega) fun r w5 hr ho5 u5 hnw => ?_
      have hsb : ∀ x ∈ s.blk, w2.heap.size ≤ x := fun x hx => (ho.blk x hx).1
      have hb12 : b1 < w2.heap.size := B1.lt
      have hb22 : b2 < w2.heap.size := B2.lt
      have hb32 : b3 < w2.heap.size := B3.lt
      have D1 := (C1.old u4).upd u5 (fun hx => by have := hsb _ hx; omega)
      have D2 := (C2.old u4).upd u5 (fun hx => by have := hsb _ hx; omega)
      have D3 := (C3.old u4).upd u5 (fun hx => by have := hsb _ hx; omega)
      refine D1.set (y := r) (by decide) rfl (by simp) fun w6 E1 u6 => ?_
      have hrb : b1 ∉ r.blk := fun hx => by
        have := (ho5.blk _ hx).1; omega
      refine ⟨⟨((v3.then u4).step0 u5 (fun x hx => by have := hsb x hx; omega)).step0 u6 (by simp; omega), q + 1, r, wr_succ (by omega), by omega, by rw [hts], E1, D2.upd u6 (by simpa using d12.symm), D3.upd u6 (by simpa using d13.symm), ?_, ho5.upd u6 (fun x hx hm => by simp at hm; subst hm; exact hrb hx), by have := u4.size; have := u5.size; have := u6.size; omega⟩, by rw [wr_succ (by omega)]; (try dsimp only); omega⟩
      rw [fieldsOf_snoc l hq2]
      exact hr.upd u6 (fun x hx hm => by simp at hm; subst hm; exact hrb hx)
  · have hqe : q = ws.length := by omega
    subst hqe
    rw [List.take_length] at hs
    have hb12 : b1 < w2.heap.size := B1.lt
    refine ⟨_, C1.sl, ?_⟩
    refine C1.set (y := s) (by decide) rfl (by simp) fun w6 E1 u6 => ?_
    have hsb : b1 ∉ s.blk := fun hx => by have := (ho.blk _ hx).1; omega
    have hsb2 : b2 ∉ s.blk := fun hx => by have := (ho.blk _ hx).1; have := B2.lt; omega
    have hsb3 : b3 ∉ s.blk := fun hx => by have := (ho.blk _ hx).1; have := B3.lt; omega
    refine (C2.upd u6 (by simpa using d12.symm)).set (y := wr .i64 (0 + (m : Int))) (by decide) rfl (by simp) fun w7 E2 u7 => ?_
    refine ((C3.upd u6 (by simpa using d13.symm)).upd u7 (by simpa using d23.symm)).set (y := 0) (by decide) rfl (by simp) fun w8 E3 u8 => ?_
    refine c98 ⟨_, ((E1.upd u7 (by simpa using d12)).upd u8 (by simpa using d13)).sl, _, (E2.upd u8 (by simpa using d23)).i64, _, E3.i64, ?_⟩
    refine k s _ w8 (((v3.step0 u6 (by simp; omega)).step0 u7 (by simp; omega)).step0 u8 (by simp; omega)) ?_
    exact ((hs.upd u6 (fun x hx hm => by simp at hm; subst hm; exact hsb hx)).upd u7 (fun x hx hm => by simp at hm; subst hm; exact hsb2 hx)).upd u8 (fun x hx hm => by simp at hm; subst hm; exact hsb3 hx)
end Go.Vc.S9
end

section
open Go Go.Vc Go.Proofs
set_option linter.unusedVariables false
set_option linter.unusedSimpArgs false
set_option autoImplicit false
namespace Go.Vc.S9

theorem bytesT_bt {S : Nat → Int} {n t i : Nat} (h : i < n) : bt (bytesT S n t) (i : Int) = byteT S t i := by
  rw [bt_nat (by rw [bytesT_len]; exact h)]
  simp [bytesT]
/-- values put together -/
theorem c71 {widths values : Sl} {ws vs : List Int} {w : World} {R : SV → World → Prop} (hw : Sees cI64 w widths ws) (hv : Sees cI64 w values vs) (v : Wid ws) (hl : vs.length = ws.length)
    (hr : ∀ i (h : i < ws.length), 0 ≤ vs[i] ∧ vs[i] < 2 ^ (ws[i]).toNat)
    (k : ∀ r w1, Upd [] [] w w1 → SeesB w1 r (packB ws vs (wsum ws / 8)) → Own w.heap.size 1 w1 r → R (.tuple [.slice r, .int .i64 0]) w1) : Ret Tryd.prog 71 [.slice widths, .slice values] w R := by
  refine f71_of _ _ _ _ ?_
  unfold vc71
  have hwl := hw.len
  have hvl := hv.len
  have hlen := v.len
  have hle := v.le
  have hwhole := v.whole
  refine c97 hw v ⟨_, _, rfl, brf (by simp) ?_⟩
  refine bre' (fun hn => absurd hn (by omega)) (fun _ => ?_)
  have hm8 : 8 * (wsum ws / 8) = wsum ws := by omega
  unfold packB at k
  rw [hm8] at k
  generalize hm : wsum ws / 8 = m at *
  refine need (by simp; omega) ?_
  intro b w1 u1 hrow
  rw [Int.toNat_natCast, zeros_cells] at hrow
  rw [Int.toNat_natCast]
  have hs1 : SeesB w1 ⟨some ⟨b, 0, none⟩, m, m⟩ (bytesT (strm ws vs) m 0) := by rw [bytesT_zero]; exact sees_row hrow _ rfl (by simp)
  have ho1 : Own w.heap.size 1 w1 ⟨some ⟨b, 0, none⟩, m, m⟩ := own_row hrow (u1.new (by simp)).1 (by rw [Cod.cells_length]; simp [cU8]) (Nat.le_refl _)
  have hS := strm_r ws vs
  refine ⟨fun t i w' => Upd [] [] w w' ∧ Own w.heap.size 1 w' ⟨some ⟨b, 0, none⟩, m, m⟩ ∧ ∃ q : Nat, i = q ∧ q ≤ ws.length ∧ t = (wsum (ws.take q) : Nat) ∧ SeesB w' ⟨some ⟨b, 0, none⟩, m, m⟩ (bytesT (strm ws vs) m (wsum (ws.take q))),
    fun _ i _ => (ws.length - i).toNat, ⟨u1.forget, ho1, 0, rfl, by omega, by simp [wsum], by simpa [wsum] using hs1⟩, ?_⟩
  rintro t i w2 ⟨u2, o2, q, rfl, hq, rfl, s2⟩
  have hw2 := hw.old u2
  have hv2 := hv.old u2
  refine brd (fun hlt => ?_) (fun hge => ?_)
  · have hq2 : q < ws.length := by omega
    have hq3 : q < vs.length := by omega
    have hwq := v.each _ (List.getElem_mem hq2)
    have hrq := hr q hq2
    have hts := wsum_take_succ hq2
    have htl := wsum_take_le ws (q + 1)
    refine needI hw2 (by omega) (by omega) ⟨_, (by rw [Int.toNat_natCast]; exact intAt hw2 q hq2), needI hv2 (by omega) (by omega) ⟨_, (by rw [Int.toNat_natCast]; exact intAt hv2 q hq3), fun J hJ => ?_⟩⟩
    refine brd (fun hg => absurd hg (by omega)) (fun _ => need (by rw [u64_id (by omega) (by omega)]; simp; omega) ?_)
    have e1 : gshr .i64 vs[q] (wr .u64 ws[q]) = 0 := by
      rw [u64_id (by omega) (by omega), gshr_i64 _ _ (by omega), Int.fdiv_eq_ediv_of_nonneg _ (Int.le_of_lt (Int.pow_pos (by decide)))]
      exact Int.ediv_eq_zero_of_lt hrq.1 hrq.2
    rw [e1]
    refine brf (by simp) (hJ _ ?_)
    clear hJ
    rw [wr_i64 (x := ws[q] - 1) (by omega) (by omega)]
    refine ⟨fun t' i' w' => Upd [] [] w w' ∧ Own w.heap.size 1 w' ⟨some ⟨b, 0, none⟩, m, m⟩ ∧ ∃ n : Nat, i' = ws[q] - 1 - n ∧ n ≤ (ws[q]).toNat ∧ t' = (wsum (ws.take q) + n : Nat) ∧ SeesB w' ⟨some ⟨b, 0, none⟩, m, m⟩ (bytesT (strm ws vs) m (wsum (ws.take q) + n)),
      fun _ i' _ => (i' + 1).toNat, ⟨u2, o2, 0, by omega, by omega, by simp, by simpa using s2⟩, ?_⟩
    rintro t' i' w3 ⟨u3, o3, n, rfl, hn, rfl, s3⟩
    refine brd (fun hlt2 => ?_) (fun hge2 => ?_)
    · have et : wr .i64 (Int.tdiv ((wsum (ws.take q) + n : Nat) : Int) 8) = (((wsum (ws.take q) + n) / 8 : Nat) : Int) := by rw [tdiv_pos (by omega), wr_i64 (by omega) (by omega)]; omega
      have hi8 : (wsum (ws.take q) + n) / 8 < m := by omega
      rw [et]
      refine needIxT (by omega) (by omega) ⟨_, (by rw [Int.toNat_natCast]; exact byteC s3 _ (by rw [bytesT_len]; exact hi8)), ?_⟩
      rw [bytesT_bt hi8]
      refine need (by rw [u64_id (by omega) (by omega)]; simp; omega) (need (by rw [tmod_pos (by omega), u64_id (n := ((wsum (ws.take q) + n : Nat) : Int) % 8) (by omega) (by omega), u64_id (by omega) (by omega)]; simp; omega) (needIxT (by omega) (by omega) ?_))
      have ei : ws[q] - 1 - (n : Int) = (((ws[q]).toNat - 1 - n : Nat) : Int) := by omega
      rw [ei, bit_put (byteT_r hS _ _) (byteT_step hS _).2 (by omega), Int.toNat_natCast]
      refine own_set (c := cU8) (x := byteT (strm ws vs) (wsum (ws.take q) + n) ((wsum (ws.take q) + n) / 8) + vs[q] / 2 ^ ((ws[q]).toNat - 1 - n) % 2 * 2 ^ (7 - (wsum (ws.take q) + n) % 8)) s3 o3 (by decide) (by rw [bytesT_len]; exact hi8) rfl (by simp) fun w4 s4 o4 u4 => ?_
      rw [← strm_at ws vs q n hq2 hq3 (by omega), bytesT_set hS] at s4
      have hb : ∀ x ∈ (⟨some ⟨b, 0, none⟩, m, m⟩ : Sl).blk, w.heap.size ≤ x := fun x hx => (o3.blk x hx).1
      rw [← ei]
      refine ⟨⟨u3.step0 u4 hb, o4, n + 1, ?_, by omega, ?_, s4⟩, ?_⟩
      · rw [wr_i64 (by omega) (by omega)]; omega
      · rw [wr_i64 (by omega) (by omega)]; omega
      · rw [wr_i64 (x := ws[q] - 1 - (n : Int) - 1) (by omega) (by omega)]; (try dsimp only); omega
    · have hnq : n = (ws[q]).toNat := by omega
      subst hnq
      refine ⟨⟨u3, o3, q + 1, wr_succ (by omega), by omega, by rw [hts], by rw [hts]; exact s3⟩, by rw [wr_succ (q := q) (by omega)]; (try dsimp only); omega⟩
  · have hqe : q = ws.length := by omega
    subst hqe
    rw [List.take_length] at s2
    exact k _ w2 u2 s2 o2
end Go.Vc.S9
end

section
namespace Go.Vc
set_option linter.unusedVariables false
set_option linter.unusedSimpArgs false
set_option autoImplicit false
set_option maxRecDepth 10000
theorem pkU_0 (a0 a1 a2 a3 : Int) : byteT (strm [16, 16, 16, 16] [a0, a1, a2, a3]) 64 0 = (a0 / 256 % 256) := by
  simp [byteT, strm]; omega
theorem pkU_1 (a0 a1 a2 a3 : Int) : byteT (strm [16, 16, 16, 16] [a0, a1, a2, a3]) 64 1 = (a0 % 256) := by
  simp [byteT, strm]; omega
theorem pkU_2 (a0 a1 a2 a3 : Int) : byteT (strm [16, 16, 16, 16] [a0, a1, a2, a3]) 64 2 = (a1 / 256 % 256) := by
  simp [byteT, strm]; omega
theorem pkU_3 (a0 a1 a2 a3 : Int) : byteT (strm [16, 16, 16, 16] [a0, a1, a2, a3]) 64 3 = (a1 % 256) := by
  simp [byteT, strm]; omega
theorem pkU_4 (a0 a1 a2 a3 : Int) : byteT (strm [16, 16, 16, 16] [a0, a1, a2, a3]) 64 4 = (a2 / 256 % 256) := by
  simp [byteT, strm]; omega
theorem pkU_5 (a0 a1 a2 a3 : Int) : byteT (strm [16, 16, 16, 16] [a0, a1, a2, a3]) 64 5 = (a2 % 256) := by
  simp [byteT, strm]; omega
theorem pkU_6 (a0 a1 a2 a3 : Int) : byteT (strm [16, 16, 16, 16] [a0, a1, a2, a3]) 64 6 = (a3 / 256 % 256) := by
  simp [byteT, strm]; omega
theorem pkU_7 (a0 a1 a2 a3 : Int) : byteT (strm [16, 16, 16, 16] [a0, a1, a2, a3]) 64 7 = (a3 % 256) := by
  simp [byteT, strm]; omega
theorem pkU_all (a0 a1 a2 a3 : Int) : packB [16, 16, 16, 16] [a0, a1, a2, a3] 8 = [(a0 / 256 % 256), (a0 % 256), (a1 / 256 % 256), (a1 % 256), (a2 / 256 % 256), (a2 % 256), (a3 / 256 % 256), (a3 % 256)] := by
  have h : packB [16, 16, 16, 16] [a0, a1, a2, a3] 8 = [byteT (strm [16, 16, 16, 16] [a0, a1, a2, a3]) 64 0, byteT (strm [16, 16, 16, 16] [a0, a1, a2, a3]) 64 1, byteT (strm [16, 16, 16, 16] [a0, a1, a2, a3]) 64 2, byteT (strm [16, 16, 16, 16] [a0, a1, a2, a3]) 64 3, byteT (strm [16, 16, 16, 16] [a0, a1, a2, a3]) 64 4, byteT (strm [16, 16, 16, 16] [a0, a1, a2, a3]) 64 5, byteT (strm [16, 16, 16, 16] [a0, a1, a2, a3]) 64 6, byteT (strm [16, 16, 16, 16] [a0, a1, a2, a3]) 64 7] := rfl
  rw [h, pkU_0, pkU_1, pkU_2, pkU_3, pkU_4, pkU_5, pkU_6, pkU_7]
theorem pkT_0 (a0 a1 a2 a3 a4 a5 a6 a7 a8 a9 : Int) : byteT (strm [16, 16, 32, 32, 4, 4, 8, 16, 16, 16] [a0, a1, a2, a3, a4, a5, a6, a7, a8, a9]) 160 0 = (a0 / 256 % 256) := by
  simp [byteT, strm]; omega
theorem pkT_1 (a0 a1 a2 a3 a4 a5 a6 a7 a8 a9 : Int) : byteT (strm [16, 16, 32, 32, 4, 4, 8, 16, 16, 16] [a0, a1, a2, a3, a4, a5, a6, a7, a8, a9]) 160 1 = (a0 % 256) := by
  simp [byteT, strm]; omega
theorem pkT_2 (a0 a1 a2 a3 a4 a5 a6 a7 a8 a9 : Int) : byteT (strm [16, 16, 32, 32, 4, 4, 8, 16, 16, 16] [a0, a1, a2, a3, a4, a5, a6, a7, a8, a9]) 160 2 = (a1 / 256 % 256) := by
  simp [byteT, strm]; omega
theorem pkT_3 (a0 a1 a2 a3 a4 a5 a6 a7 a8 a9 : Int) : byteT (strm [16, 16, 32, 32, 4, 4, 8, 16, 16, 16] [a0, a1, a2, a3, a4, a5, a6, a7, a8, a9]) 160 3 = (a1 % 256) := by
  simp [byteT, strm]; omega
theorem pkT_4 (a0 a1 a2 a3 a4 a5 a6 a7 a8 a9 : Int) : byteT (strm [16, 16, 32, 32, 4, 4, 8, 16, 16, 16] [a0, a1, a2, a3, a4, a5, a6, a7, a8, a9]) 160 4 = (a2 / 16777216 % 256) := by
  simp [byteT, strm]; omega
theorem pkT_5 (a0 a1 a2 a3 a4 a5 a6 a7 a8 a9 : Int) : byteT (strm [16, 16, 32, 32, 4, 4, 8, 16, 16, 16] [a0, a1, a2, a3, a4, a5, a6, a7, a8, a9]) 160 5 = (a2 / 65536 % 256) := by
  simp [byteT, strm]; omega
theorem pkT_6 (a0 a1 a2 a3 a4 a5 a6 a7 a8 a9 : Int) : byteT (strm [16, 16, 32, 32, 4, 4, 8, 16, 16, 16] [a0, a1, a2, a3, a4, a5, a6, a7, a8, a9]) 160 6 = (a2 / 256 % 256) := by
  simp [byteT, strm]; omega
theorem pkT_7 (a0 a1 a2 a3 a4 a5 a6 a7 a8 a9 : Int) : byteT (strm [16, 16, 32, 32, 4, 4, 8, 16, 16, 16] [a0, a1, a2, a3, a4, a5, a6, a7, a8, a9]) 160 7 = (a2 % 256) := by
  simp [byteT, strm]; omega
theorem pkT_8 (a0 a1 a2 a3 a4 a5 a6 a7 a8 a9 : Int) : byteT (strm [16, 16, 32, 32, 4, 4, 8, 16, 16, 16] [a0, a1, a2, a3, a4, a5, a6, a7, a8, a9]) 160 8 = (a3 / 16777216 % 256) := by
  simp [byteT, strm]; omega
theorem pkT_9 (a0 a1 a2 a3 a4 a5 a6 a7 a8 a9 : Int) : byteT (strm [16, 16, 32, 32, 4, 4, 8, 16, 16, 16] [a0, a1, a2, a3, a4, a5, a6, a7, a8, a9]) 160 9 = (a3 / 65536 % 256) := by
  simp [byteT, strm]; omega
theorem pkT_10 (a0 a1 a2 a3 a4 a5 a6 a7 a8 a9 : Int) : byteT (strm [16, 16, 32, 32, 4, 4, 8, 16, 16, 16] [a0, a1, a2, a3, a4, a5, a6, a7, a8, a9]) 160 10 = (a3 / 256 % 256) := by
  simp [byteT, strm]; omega
theorem pkT_11 (a0 a1 a2 a3 a4 a5 a6 a7 a8 a9 : Int) : byteT (strm [16, 16, 32, 32, 4, 4, 8, 16, 16, 16] [a0, a1, a2, a3, a4, a5, a6, a7, a8, a9]) 160 11 = (a3 % 256) := by
  simp [byteT, strm]; omega
theorem pkT_12 (a0 a1 a2 a3 a4 a5 a6 a7 a8 a9 : Int) : byteT (strm [16, 16, 32, 32, 4, 4, 8, 16, 16, 16] [a0, a1, a2, a3, a4, a5, a6, a7, a8, a9]) 160 12 = (a4 % 16) * 16 + (a5 % 16) := by
  simp [byteT, strm]; omega
theorem pkT_13 (a0 a1 a2 a3 a4 a5 a6 a7 a8 a9 : Int) : byteT (strm [16, 16, 32, 32, 4, 4, 8, 16, 16, 16] [a0, a1, a2, a3, a4, a5, a6, a7, a8, a9]) 160 13 = (a6 % 256) := by
  simp [byteT, strm]; omega
theorem pkT_14 (a0 a1 a2 a3 a4 a5 a6 a7 a8 a9 : Int) : byteT (strm [16, 16, 32, 32, 4, 4, 8, 16, 16, 16] [a0, a1, a2, a3, a4, a5, a6, a7, a8, a9]) 160 14 = (a7 / 256 % 256) := by
  simp [byteT, strm]; omega
theorem pkT_15 (a0 a1 a2 a3 a4 a5 a6 a7 a8 a9 : Int) : byteT (strm [16, 16, 32, 32, 4, 4, 8, 16, 16, 16] [a0, a1, a2, a3, a4, a5, a6, a7, a8, a9]) 160 15 = (a7 % 256) := by
  simp [byteT, strm]; omega
theorem pkT_16 (a0 a1 a2 a3 a4 a5 a6 a7 a8 a9 : Int) : byteT (strm [16, 16, 32, 32, 4, 4, 8, 16, 16, 16] [a0, a1, a2, a3, a4, a5, a6, a7, a8, a9]) 160 16 = (a8 / 256 % 256) := by
  simp [byteT, strm]; omega
theorem pkT_17 (a0 a1 a2 a3 a4 a5 a6 a7 a8 a9 : Int) : byteT (strm [16, 16, 32, 32, 4, 4, 8, 16, 16, 16] [a0, a1, a2, a3, a4, a5, a6, a7, a8, a9]) 160 17 = (a8 % 256) := by
  simp [byteT, strm]; omega
theorem pkT_18 (a0 a1 a2 a3 a4 a5 a6 a7 a8 a9 : Int) : byteT (strm [16, 16, 32, 32, 4, 4, 8, 16, 16, 16] [a0, a1, a2, a3, a4, a5, a6, a7, a8, a9]) 160 18 = (a9 / 256 % 256) := by
  simp [byteT, strm]; omega
theorem pkT_19 (a0 a1 a2 a3 a4 a5 a6 a7 a8 a9 : Int) : byteT (strm [16, 16, 32, 32, 4, 4, 8, 16, 16, 16] [a0, a1, a2, a3, a4, a5, a6, a7, a8, a9]) 160 19 = (a9 % 256) := by
  simp [byteT, strm]; omega
theorem pkT_all (a0 a1 a2 a3 a4 a5 a6 a7 a8 a9 : Int) : packB [16, 16, 32, 32, 4, 4, 8, 16, 16, 16] [a0, a1, a2, a3, a4, a5, a6, a7, a8, a9] 20 = [(a0 / 256 % 256), (a0 % 256), (a1 / 256 % 256), (a1 % 256), (a2 / 16777216 % 256), (a2 / 65536 % 256), (a2 / 256 % 256), (a2 % 256), (a3 / 16777216 % 256), (a3 / 65536 % 256), (a3 / 256 % 256), (a3 % 256), (a4 % 16) * 16 + (a5 % 16), (a6 % 256), (a7 / 256 % 256), (a7 % 256), (a8 / 256 % 256), (a8 % 256), (a9 / 256 % 256), (a9 % 256)] := by
  have h : packB [16, 16, 32, 32, 4, 4, 8, 16, 16, 16] [a0, a1, a2, a3, a4, a5, a6, a7, a8, a9] 20 = [byteT (strm [16, 16, 32, 32, 4, 4, 8, 16, 16, 16] [a0, a1, a2, a3, a4, a5, a6, a7, a8, a9]) 160 0, byteT (strm [16, 16, 32, 32, 4, 4, 8, 16, 16, 16] [a0, a1, a2, a3, a4, a5, a6, a7, a8, a9]) 160 1, byteT (strm [16, 16, 32, 32, 4, 4, 8, 16, 16, 16] [a0, a1, a2, a3, a4, a5, a6, a7, a8, a9]) 160 2, byteT (strm [16, 16, 32, 32, 4, 4, 8, 16, 16, 16] [a0, a1, a2, a3, a4, a5, a6, a7, a8, a9]) 160 3, byteT (strm [16, 16, 32, 32, 4, 4, 8, 16, 16, 16] [a0, a1, a2, a3, a4, a5, a6, a7, a8, a9]) 160 4, byteT (strm [16, 16, 32, 32, 4, 4, 8, 16, 16, 16] [a0, a1, a2, a3, a4, a5, a6, a7, a8, a9]) 160 5, byteT (strm [16, 16, 32, 32, 4, 4, 8, 16, 16, 16] [a0, a1, a2, a3, a4, a5, a6, a7, a8, a9]) 160 6, byteT (strm [16, 16, 32, 32, 4, 4, 8, 16, 16, 16] [a0, a1, a2, a3, a4, a5, a6, a7, a8, a9]) 160 7, byteT (strm [16, 16, 32, 32, 4, 4, 8, 16, 16, 16] [a0, a1, a2, a3, a4, a5, a6, a7, a8, a9]) 160 8, byteT (strm [16, 16, 32, 32, 4, 4, 8, 16, 16, 16] [a0, a1, a2, a3, a4, a5, a6, a7, a8, a9]) 160 9, byteT (strm [16, 16, 32, 32, 4, 4, 8, 16, 16, 16] [a0, a1, a2, a3, a4, a5, a6, a7, a8, a9]) 160 10, byteT (strm [16, 16, 32, 32, 4, 4, 8, 16, 16, 16] [a0, a1, a2, a3, a4, a5, a6, a7, a8, a9]) 160 11, byteT (strm [16, 16, 32, 32, 4, 4, 8, 16, 16, 16] [a0, a1, a2, a3, a4, a5, a6, a7, a8, a9]) 160 12, byteT (strm [16, 16, 32, 32, 4, 4, 8, 16, 16, 16] [a0, a1, a2, a3, a4, a5, a6, a7, a8, a9]) 160 13, byteT (strm [16, 16, 32, 32, 4, 4, 8, 16, 16, 16] [a0, a1, a2, a3, a4, a5, a6, a7, a8, a9]) 160 14, byteT (strm [16, 16, 32, 32, 4, 4, 8, 16, 16, 16] [a0, a1, a2, a3, a4, a5, a6, a7, a8, a9]) 160 15, byteT (strm [16, 16, 32, 32, 4, 4, 8, 16, 16, 16] [a0, a1, a2, a3, a4, a5, a6, a7, a8, a9]) 160 16, byteT (strm [16, 16, 32, 32, 4, 4, 8, 16, 16, 16] [a0, a1, a2, a3, a4, a5, a6, a7, a8, a9]) 160 17, byteT (strm [16, 16, 32, 32, 4, 4, 8, 16, 16, 16] [a0, a1, a2, a3, a4, a5, a6, a7, a8, a9]) 160 18, byteT (strm [16, 16, 32, 32, 4, 4, 8, 16, 16, 16] [a0, a1, a2, a3, a4, a5, a6, a7, a8, a9]) 160 19] := rfl
  rw [h, pkT_0, pkT_1, pkT_2, pkT_3, pkT_4, pkT_5, pkT_6, pkT_7, pkT_8, pkT_9, pkT_10, pkT_11, pkT_12, pkT_13, pkT_14, pkT_15, pkT_16, pkT_17, pkT_18, pkT_19]
def widthsU : List Int := [16, 16, 16, 16]
def widthsT : List Int := [16, 16, 32, 32, 4, 4, 8, 16, 16, 16]
theorem fieldsU {l : List Int} (hb : Byt l) : fieldsOf l 0 widthsU = [W16 l 0, W16 l 2, W16 l 4, W16 l 6] := by
  have e0 := bitsN_two hb 0
  have e1 := bitsN_two hb 2
  have e2 := bitsN_two hb 4
  have e3 := bitsN_two hb 6
  simp only [fieldsOf, widthsU, List.cons.injEq, and_true]
  exact ⟨e0, e1, e2, e3⟩
theorem bits32 {l : List Int} (hb : Byt l) (q : Nat) : bitsN l (8 * q) 32 = W32 l q := by
  rw [bitsN_four hb]
  unfold W32 W16
  rw [show q + 2 + 1 = q + 3 by omega]
  omega
theorem fieldsT {l : List Int} (hb : Byt l) : fieldsOf l 0 widthsT = [W16 l 0, W16 l 2, W32 l 4, W32 l 8, bt l 12 / 16, bt l 12 % 16, bt l 13, W16 l 14, W16 l 16, W16 l 18] := by
  have b12 := hb.bt 12
  have e0 := bitsN_two hb 0
  have e1 := bitsN_two hb 2
  have e2 := bits32 hb 4
  have e3 := bits32 hb 8
  have e4 := bitsN_in l 96 12 0 rfl 4 (by omega)
  have e5 := bitsN_in l 100 12 4 rfl 4 (by omega)
  have e6 := bitsN_byte hb 13
  have e7 := bitsN_two hb 14
  have e8 := bitsN_two hb 16
  have e9 := bitsN_two hb 18
  simp only [fieldsOf, widthsT, List.cons.injEq, and_true]
  refine ⟨e0, e1, e2, e3, ?_, ?_, e6, e7, e8, e9⟩
  · refine e4.trans ?_; simp; omega
  · refine e5.trans ?_; simp
def packU (u : UdV) : List Int := [u.sp, u.dp, 8 + (u.data.length : Int), 0]
theorem packU_eq (u : UdV) : packB widthsU (packU u) 8 = udHd u 0 := by
  unfold widthsU packU
  rw [pkU_all]
  unfold udHd
  simp
theorem packU_r {v : Int} {u : UdV} (h : udChk v u = 0) : ∀ (i : Nat) (hi : i < widthsU.length) (h2 : i < (packU u).length), 0 ≤ (packU u)[i] ∧ (packU u)[i] < 2 ^ (widthsU[i]).toNat := by
  obtain ⟨h1, h2, h3, h4, h5⟩ := udChk_ok h
  intro i hi _
  match i, hi with
  | 0, _ => exact (show (0 : Int) ≤ u.sp ∧ u.sp < (2 : Int) ^ 16 from ⟨by omega, by omega⟩)
  | 1, _ => exact (show (0 : Int) ≤ u.dp ∧ u.dp < (2 : Int) ^ 16 from ⟨by omega, by omega⟩)
  | 2, _ => exact (show (0 : Int) ≤ 8 + (u.data.length : Int) ∧ 8 + (u.data.length : Int) < (2 : Int) ^ 16 from ⟨by omega, by omega⟩)
  | 3, _ => exact (show (0 : Int) ≤ 0 ∧ 0 < (2 : Int) ^ 16 from ⟨by omega, by omega⟩)
def packT (t : TcV) : List Int := [t.sp, t.dp, t.seq, t.ack, (thL t : Int) / 4, 0, t.fl, t.win, 0, t.urg]
theorem packT_eq {t : TcV} (h : tcChk t = 0) : packB widthsT (packT t) 20 = (tcHead t 0).take 20 := by
  obtain ⟨h1, h2, h3, h4, h5, h6, h7, h8, h9⟩ := tcChk_ok h
  have hr := thL_r h8
  unfold widthsT packT
  rw [pkT_all]
  have e : (tcHead t 0).take 20 = [t.sp / 256 % 256, t.sp % 256, t.dp / 256 % 256, t.dp % 256, t.seq / 16777216 % 256, t.seq / 65536 % 256, t.seq / 256 % 256, t.seq % 256, t.ack / 16777216 % 256, t.ack / 65536 % 256, t.ack / 256 % 256, t.ack % 256, (thL t : Int) / 4 * 16, t.fl, t.win / 256 % 256, t.win % 256, 0, 0, t.urg / 256 % 256, t.urg % 256] := rfl
  rw [e]
  simp only [List.cons.injEq, and_true]
  and_intros <;> first | omega | trivial | rfl
theorem packT_r {t : TcV} (h : tcChk t = 0) : ∀ (i : Nat) (hi : i < widthsT.length) (h2 : i < (packT t).length), 0 ≤ (packT t)[i] ∧ (packT t)[i] < 2 ^ (widthsT[i]).toNat := by
  obtain ⟨h1, h2, h3, h4, h5, h6, h7, h8, h9⟩ := tcChk_ok h
  have hr := thL_r h8
  intro i hi _
  match i, hi with
  | 0, _ => exact (show (0 : Int) ≤ t.sp ∧ t.sp < (2 : Int) ^ 16 from ⟨by omega, by omega⟩)
  | 1, _ => exact (show (0 : Int) ≤ t.dp ∧ t.dp < (2 : Int) ^ 16 from ⟨by omega, by omega⟩)
  | 2, _ => exact (show (0 : Int) ≤ t.seq ∧ t.seq < (2 : Int) ^ 32 from ⟨by omega, by omega⟩)
  | 3, _ => exact (show (0 : Int) ≤ t.ack ∧ t.ack < (2 : Int) ^ 32 from ⟨by omega, by omega⟩)
  | 4, _ => exact (show (0 : Int) ≤ (thL t : Int) / 4 ∧ (thL t : Int) / 4 < (2 : Int) ^ 4 from ⟨by omega, by omega⟩)
  | 5, _ => exact (show (0 : Int) ≤ 0 ∧ 0 < (2 : Int) ^ 4 from ⟨by omega, by omega⟩)
  | 6, _ => exact (show (0 : Int) ≤ t.fl ∧ t.fl < (2 : Int) ^ 8 from ⟨by omega, by omega⟩)
  | 7, _ => exact (show (0 : Int) ≤ t.win ∧ t.win < (2 : Int) ^ 16 from ⟨by omega, by omega⟩)
  | 8, _ => exact (show (0 : Int) ≤ 0 ∧ 0 < (2 : Int) ^ 16 from ⟨by omega, by omega⟩)
  | 9, _ => exact (show (0 : Int) ≤ t.urg ∧ t.urg < (2 : Int) ^ 16 from ⟨by omega, by omega⟩)
end Go.Vc
end

section
namespace Go.Vc
set_option linter.unusedVariables false
set_option linter.unusedSimpArgs false
set_option autoImplicit false
section
variable {e : Ends} {u : UdV} {t : TcV} {l : List Int}
theorem udSer_byt (f : UFit u) : Byt (udSer e u) := (udHd_byt u _).app f.data
theorem udSer_len (e : Ends) (u : UdV) : (udSer e u).length = 8 + u.data.length := by simp [udSer, udHd_len]
end
/-! ### the greatest segment -/
/-- what an option tells -/
def tells (o : Opt) : Prop := o.kind = 2 ∧ o.data.length = 2
instance (o : Opt) : Decidable (tells o) := by unfold tells; infer_instance
def mssO : List Opt → Option Int
  | [] => none
  | o :: r => if tells o then some (W16 o.data 0) else mssO r
def clampO (syn : Bool) (m : Int) (o : Opt) : Opt := if tells o ∧ m < W16 o.data 0 ∧ syn = true then ⟨o.kind, [m / 256 % 256, m % 256]⟩ else o
def synOf (fl : Int) : Bool := iand .i64 fl 2 != 0
def clampT (t : TcV) (most : Int) : TcV := { t with opts := t.opts.map (clampO (synOf t.fl) (imax most 0)) }
end Go.Vc
end

section
namespace Go.Vc
set_option linter.unusedVariables false
set_option linter.unusedSimpArgs false
set_option autoImplicit false
/-- a piece of a slice that is all but its own pointer -/
theorem sub_lit {b o n cap h m : Nat} (hm : m ≠ 0) : Sl.sub ⟨some ⟨b, o, none⟩, n, cap⟩ 1 0 h m = ⟨some ⟨b, o, none⟩, h, m⟩ := by
  unfold Sl.sub
  rw [if_neg hm]
  simp
end Go.Vc
end

section
open Go Go.Vc Go.Proofs
set_option linter.unusedVariables false
set_option linter.unusedSimpArgs false
set_option autoImplicit false
namespace Go.Vc.S9
def widU : Sl := ⟨some ⟨0, 0, none⟩, 4, 4⟩
def widT : Sl := ⟨some ⟨1, 0, none⟩, 10, 10⟩
/-- the three tables stand -/
structure Tabs (w : World) : Prop where
  u : Sees cI64 w widU widthsU
  t : Sees cI64 w widT widthsT
  l : Lens w
theorem Tabs.old {w w1 : World} {n : List Nat} (h : Tabs w) (u : Upd [] n w w1) : Tabs w1 := ⟨h.u.old u, h.t.old u, h.l.old u⟩
theorem widU_ok : Wid widthsU := ⟨by decide, by decide, by decide⟩
theorem widT_ok : Wid widthsT := ⟨by decide, by decide, by decide⟩
abbrev udSV (u : UdV) (d : Sl) : SV := .struct [.int .i64 u.sp, .int .i64 u.dp, .bool u.ns, .slice d]
noncomputable def dU (e : Ends) (b : Sl) (l : List Int) : Sl := if udErr e l = 0 then b.sub 1 8 (udLen l) (udLen l) else ⟨none, 0, 0⟩
section
variable {e : Ends} {w : World} {R : SV → World → Prop}
theorem c25 {v : Int} {u : UdV} {d : Sl} (hd : d.len = u.data.length) (k : ∀ w1, Upd [] [] w w1 → R (.int .i64 (udChk v u)) w1) : Ret Tryd.prog 25 [.int .i64 v, udSV u d] w R := by
  refine f25_of _ _ _ _ _ _ _ ?_
  unfold vc25
  intro b
  have fin : ∀ x w1, Upd [] [] w w1 → udChk v u = x → R (.int .i64 x) w1 := fun x w1 u hx => hx ▸ k w1 u
  unfold udChk at fin
  have main : (v = 4 ∨ v = 6) → ∀ w1, Upd [] [b] w w1 → Ret Tryd.prog 77 [.int .i64 u.sp, .int .i64 65535] w1 fun r w1_1 => ∃ (b_1 : Bool), r = .bool b_1 ∧ Keeps [b] w1 w1_1 ∧ Br b_1 (R (.int .i64 98) w1_1)
      (Ret Tryd.prog 77 [.int .i64 u.dp, .int .i64 65535] w1_1 fun r w1 => ∃ (b_2 : Bool), r = .bool b_2 ∧ Keeps [b] w1_1 w1 ∧ Br b_2 (R (.int .i64 98) w1)
        (Br u.ns (Br (v == 6) (R (.int .i64 98) w1) (Br (decide ((d.len : Int) > 65527)) (R (.int .i64 2) w1) (R (.int .i64 0) w1))) (Br (decide ((d.len : Int) > 65527)) (R (.int .i64 2) w1) (R (.int .i64 0) w1)))) := by
    intro hv w1 u1
    have fin' := fun x hx => fin x w1 u1.forget hx
    rw [if_neg (by omega)] at fin'
    refine c77 ⟨_, rfl, kp (Upd.refl _), brb (fun h => fin' _ (by rw [if_pos (.inl (of_decide_eq_true h))])) (fun h => ?_)⟩
    refine c77 ⟨_, rfl, kp (Upd.refl _), brb (fun h2 => fin' _ (by rw [if_pos (.inr (.inl (of_decide_eq_true h2)))])) (fun h2 => ?_)⟩
    have h' := of_decide_eq_false h
    have h2' := of_decide_eq_false h2
    have fin2 : ¬ (u.ns = true ∧ v = 6) → Br (decide ((d.len : Int) > 65527)) (R (.int .i64 2) w1) (R (.int .i64 0) w1) := fun hn => by
      rw [if_neg (by rintro (x | x | x); exact h' x; exact h2' x; exact hn x)] at fin'
      exact brd (fun g => fin' _ (by rw [if_pos (by omega)])) (fun g => fin' _ (by rw [if_neg (by omega)]))
    refine brb (fun hns => bre (fun h6 => fin' _ (by rw [if_pos (.inr (.inr ⟨hns, h6⟩))])) (fun h6 => fin2 (fun x => h6 x.2))) (fun hns => fin2 (fun x => by rw [hns] at x; cases x.1))
  refine bre' (fun h4 => bre' (fun h6 w1 u1 => fin _ _ u1.forget (by rw [if_pos ⟨h4, h6⟩])) (fun h6 => main (.inr h6))) (fun h4 => main (.inl h4))
theorem c59 {v : Int} {u : UdV} {d : Sl} (hd : d.len = u.data.length) (hdl : u.data.length ≤ 140737488355328) (k : ∀ w1, Upd [] [] w w1 → R (.int .i64 (udChk v u)) w1) : Ret Tryd.prog 59 [.int .i64 v, udSV u d] w R := by
  refine f59_of _ _ _ _ _ _ _ ?_
  unfold vc59
  intro b
  have fin : ∀ x w1, Upd [] [] w w1 → udChk v u = x → R (.int .i64 x) w1 := fun x w1 u hx => hx ▸ k w1 u
  unfold udChk at fin
  rw [wr_i64 (x := 8 + (d.len : Int)) (by omega) (by omega)]
  have main : (v = 4 ∨ v = 6) → ∀ w1, Upd [] [b] w w1 → Ret Tryd.prog 93 [.int .i64 u.sp, .int .i64 65535] w1 fun r w1_1 => ∃ (b_1 : Bool), r = .bool b_1 ∧ Keeps [b] w1 w1_1 ∧ Br b_1 (R (.int .i64 98) w1_1)
      (Ret Tryd.prog 93 [.int .i64 u.dp, .int .i64 65535] w1_1 fun r w1 => ∃ (b_2 : Bool), r = .bool b_2 ∧ Keeps [b] w1_1 w1 ∧ Br b_2 (R (.int .i64 98) w1)
        (Br u.ns (Br (v == 6) (R (.int .i64 98) w1) (Br (decide (8 + (d.len : Int) > 65535)) (R (.int .i64 2) w1) (R (.int .i64 0) w1))) (Br (decide (8 + (d.len : Int) > 65535)) (R (.int .i64 2) w1) (R (.int .i64 0) w1)))) := by
    intro hv w1 u1
    have fin' := fun x hx => fin x w1 u1.forget hx
    rw [if_neg (by omega)] at fin'
    refine c93 ⟨_, rfl, kp (Upd.refl _), brb (fun h => fin' _ (by rw [if_pos (.inl (of_decide_eq_true h))])) (fun h => ?_)⟩
    refine c93 ⟨_, rfl, kp (Upd.refl _), brb (fun h2 => fin' _ (by rw [if_pos (.inr (.inl (of_decide_eq_true h2)))])) (fun h2 => ?_)⟩
    have h' := of_decide_eq_false h
    have h2' := of_decide_eq_false h2
    have fin2 : ¬ (u.ns = true ∧ v = 6) → Br (decide (8 + (d.len : Int) > 65535)) (R (.int .i64 2) w1) (R (.int .i64 0) w1) := fun hn => by
      rw [if_neg (by rintro (x | x | x); exact h' x; exact h2' x; exact hn x)] at fin'
      exact brd (fun g => fin' _ (by rw [if_pos (by omega)])) (fun g => fin' _ (by rw [if_neg (by omega)]))
    refine brb (fun hns => bre (fun h6 => fin' _ (by rw [if_pos (.inr (.inr ⟨hns, h6⟩))])) (fun h6 => fin2 (fun x => h6 x.2))) (fun hns => fin2 (fun x => by rw [hns] at x; cases x.1))
  refine bre' (fun h4 => bre' (fun h6 w1 u1 => fin _ _ u1.forget (by rw [if_pos ⟨h4, h6⟩])) (fun h6 => main (.inr h6))) (fun h4 => main (.inl h4))
theorem udLen_int {l : List Int} (hb : Byt l) : W16 l 4 = (udLen l : Int) := by
  have := W16_r hb 4
  unfold udLen; omega
theorem ud93 {l : List Int} (h1 : ¬ 65535 < l.length) (hf : e.fit) (h8 : ¬ l.length < 8) (hn : ¬ (udLen l < 8 ∨ l.length < udLen l)) : udErr e l = if W16 l 6 = 0 then (if e.sv = 6 then 93 else 0) else if psum e 17 (l.take (udLen l)) ≠ 65535 then 93 else 0 := by
  unfold udErr; rw [if_neg h1, if_neg (Classical.not_not.2 hf), if_neg h8, if_neg hn]
set_option maxRecDepth 10000 in
theorem c21 {b : Sl} {l : List Int} (hg : Tabs w) (o : e.Ok) (h : SeesB w b l) (hb : Byt l) (hc : b.len ≤ b.cap) (hl : l.length ≤ 140737488355328)
    (k : ∀ w1, Upd [] [] w w1 → R (.tuple [udSV (udOf e l) (dU e b l), .int .i64 (udErr e l)]) w1) : Ret Tryd.prog 21 [adr e.sv e.sa, adr e.dv e.da, .slice b] w R := by
  refine f21_of _ _ _ _ _ _ _ ?_
  unfold vc21
  have hlen := h.len
  rw [hlen]
  have ke : ∀ x w1, Upd [] [] w w1 → udErr e l = x → x ≠ 0 → R (.tuple [.struct [.int .i64 0, .int .i64 0, .bool false, .slice ⟨none, 0, 0⟩], .int .i64 x]) w1 := fun x w1 u he hn => by
    have hn' : ¬ udErr e l = 0 := by omega
    have := k w1 u
    unfold udOf dU at this
    rwa [if_neg hn', if_neg hn', he] at this
  intro b1 b2 b3
  have e0 : udErr e l = udErr e l := rfl
  refine brd (fun hgt w1 u => ke _ _ u.forget (by unfold udErr; rw [if_pos (by omega)]) (by decide)) (fun hle => ?_)
  intro w1 u1
  refine c70 fun w2 u2 => ⟨_, rfl, kp u2, ?_⟩
  have v2 := u1.then u2
  have n3 := u1.new (b := b3) (by simp)
  have n2 := u1.new (b := b2) (by simp)
  have n1 := u1.new (b := b1) (by simp)
  have fr : ∀ x ∈ [b3], w.heap.size ≤ x := by simp; omega
  by_cases hf : e.fit
  rotate_left
  · rw [if_neg hf]
    exact brt (by decide) fun w3 u3 => ke _ _ (v2.step0 u3 fr) (by unfold udErr; rw [if_neg (by omega), if_pos hf]) (by decide)
  rw [if_pos hf]
  refine brf (by decide) (brd (fun h8 w3 u3 => ke _ _ (v2.step0 u3 fr) (by unfold udErr; rw [if_neg (by omega), if_neg (Classical.not_not.2 hf), if_pos (by omega)]) (by decide)) (fun h8 => ?_))
  refine ⟨fun i => widthsU.getD i 0, fun i hi => ?_, ?_⟩
  · have := intAt (hg.u.old v2) i hi
    rw [show widU.at 1 i = (Addr.add ⟨0, 0, none⟩ (0 + i)) by simp [Sl.at, widU]] at this
    rw [this]
    simp only [List.getD_eq_getElem?_getD, List.getElem?_eq_getElem (show i < widthsU.length from hi), Option.getD_some]
    rfl
  intro b4 w3 u3 hr3 _
  have hws : Sees cI64 w3 (Sl.sub ⟨some ⟨b4, 0, none⟩, 4, 4⟩ 1 0 4 4) widthsU := by
    have : Sees cI64 w3 ⟨some ⟨b4, 0, none⟩, 4, 4⟩ widthsU := sees_row hr3 _ rfl rfl
    rw [sub_lit (by omega)]; exact this
  have v3 := v2.then u3
  refine c73 (h.old v3) hb hc (by omega) hws widU_ok (by show 8 ≤ l.length; omega) fun F n w4 u4 hF => ⟨_, _, _, rfl, kp u4, ?_⟩
  rw [fieldsU hb] at hF
  have v4 := v3.then u4
  have hFl := hF.len
  have hFp := hF.isSome (by decide) (by simp)
  have at_ : ∀ {w' : World}, Upd [] [] w4 w' → ∀ (i : Nat) (hi : i < 4), w'.cell? (F.at 1 i) = some (.int .i64 ([W16 l 0, W16 l 2, W16 l 4, W16 l 6][i]'hi)) := fun u i hi => intAt (hF.old u) i hi
  have nd : ∀ (i : Nat) {X : Prop}, i < 4 → X → Need (decide ((i : Int) < (F.len : Int)) && F.ptr.isSome) X := fun i X hi x => needC (by rw [hFl]; exact_mod_cast hi) hFp x
  refine nd 2 (by omega) ⟨W16 l 4, at_ (Upd.refl _) 2 (by omega), nd 3 (by omega) ⟨W16 l 6, at_ (Upd.refl _) 3 (by omega), ?_⟩⟩
  rw [udLen_int hb]
  intro J hJ
  have e92 : udLen l < 8 ∨ l.length < udLen l → udErr e l = 92 := fun hx => by unfold udErr; rw [if_neg (by omega), if_neg (Classical.not_not.2 hf), if_neg (by omega), if_pos hx]
  refine brd (fun hx w5 u5 => ke _ _ (v4.step0 u5 fr) (e92 (by omega)) (by decide)) (fun g1 => ?_)
  refine brd (fun hx w5 u5 => ke _ _ (v4.step0 u5 fr) (e92 (by omega)) (by decide)) (fun g2 => ?_)
  have e93 := ud93 (e := e) (l := l) (by omega) hf (by omega) (by omega)
  intro J1 hJ1
  have kT : ∀ w5, Upd [] [] w4 w5 → udErr e l = 93 → J1 true w5 := fun w5 u5 he => hJ1 _ _ (brt rfl fun w6 u6 => ke _ _ ((v4.then u5).step0 u6 fr) he (by decide))
  have kF : ∀ w5, Upd [] [] w4 w5 → udErr e l = 0 → J1 false w5 := fun w5 u5 he => by
    refine hJ1 _ _ (brf rfl ?_)
    (repeat refine And.intro rfl ?_)
    refine hJ _ _ _ _ _ ?_
    refine nd 0 (by omega) ⟨W16 l 0, at_ u5 0 (by omega), nd 1 (by omega) ⟨W16 l 2, at_ u5 1 (by omega), need (by simp; omega) fun w6 u6 => ?_⟩⟩
    have := k w6 ((v4.then u5).step0 u6 fr)
    unfold udOf dU at this
    rw [if_pos he, if_pos he, he] at this
    rw [Int.toNat_natCast]
    exact this
  refine bre (fun hz => bre (fun h6 w5 u5 => ?_) (fun h6 => brf (by simp [hz]) fun w5 u5 => ?_)) (fun hz => brt (by simp [hz]) (need (by simp; omega) fun w5 u5 => ?_))
  · (repeat refine And.intro rfl ?_)
    exact kT w5 u5 (by rw [e93, if_pos hz, if_pos h6])
  · (repeat refine And.intro rfl ?_)
    exact kF w5 u5 (by rw [e93, if_pos hz, if_neg h6])
  rw [Int.toNat_natCast]
  have hsub := (h.old (v4.then u5)).subB (lo := 0) (hi := udLen l) (mx := b.cap) (by omega) (by omega) (by omega)
  rw [List.drop_zero] at hsub
  refine c74 hf o (by omega) hsub (hb.take _) (by simp; omega) fun w6 u6 => ⟨_, rfl, kp u6, ?_⟩
  by_cases hp : psum e 17 (l.take (udLen l)) = 65535
  · rw [show (!(psum e 17 (l.take (udLen l)) == 65535)) = false by simp [hp]]
    (repeat refine And.intro rfl ?_)
    exact kF _ (u5.then u6) (by rw [e93, if_neg hz, if_neg (by omega)])
  · rw [show (!(psum e 17 (l.take (udLen l)) == 65535)) = true by simp [hp]]
    (repeat refine And.intro rfl ?_)
    exact kT _ (u5.then u6) (by rw [e93, if_neg hz, if_pos hp])
theorem dU_sees {b : Sl} {l : List Int} (h : SeesB w b l) : SeesB w (dU e b l) (udOf e l).data := by
  unfold dU udOf
  by_cases he : udErr e l = 0
  · rw [if_pos he, if_pos he]
    obtain ⟨_, _, h3, h4, _⟩ := udErr_ok he
    exact h.subB h3 h4 (Nat.le_refl _)
  · rw [if_neg he, if_neg he]; exact Sees.nil _ _ _ _
theorem c23T {u : UdV} {a b : Sl} (ha : SeesB w a u.data) (hb : SeesB w b u.data) (hB : Byt u.data) (k : ∀ w1, Upd [] [] w w1 → R (.bool true) w1) : Ret Tryd.prog 23 [udSV u a, udSV u b] w R := by
  refine f23_of _ _ _ _ _ _ _ _ _ _ ?_
  unfold vc23
  intro b1 b2
  refine brt (by simp) (brt (by simp) (brt (by simp) fun w1 u1 => ?_))
  refine c30 (ha.old u1) (hb.old u1) hB hB ⟨_, rfl, kp (Upd.refl _), ?_⟩
  rw [decide_eq_true rfl]
  exact k _ u1.forget
theorem c37 {u : UdV} {d : Sl} (hd : SeesB w d u.data) (hl : u.data.length ≤ 140737488355328) (k : ∀ s w1, Upd [] [] w w1 → SeesB w1 s u.data → Own w.heap.size 1 w1 s → R (udSV u s) w1) : Ret Tryd.prog 37 [udSV u d] w R := by
  refine f37_of _ _ _ _ _ _ ?_
  unfold vc37
  intro b b1 w1 u1
  have n1 := u1.new (b := b) (by simp)
  have n2 := u1.new (b := b1) (by simp)
  refine c40 (hd.old u1) hl fun s w2 u2 hs ho => ⟨_, rfl, kp u2, fun w3 u3 => ?_⟩
  have q : ∀ x ∈ s.blk, x ∉ [b1, b] := fun x hx hm => by have := (ho.blk x hx).1; simp at hm; omega
  exact k s w3 ((u1.then u2).step0 u3 (by simp; omega)) (hs.upd u3 q) ((ho.upd u3 q).mono u1.size)
end
end Go.Vc.S9
end

section
open Go Go.Vc Go.Proofs
set_option linter.unusedVariables false
set_option linter.unusedSimpArgs false
set_option autoImplicit false
namespace Go.Vc.S9
/-- a number's bytes, the highest first -/
def beL (v : Int) (n : Nat) : List Int := (List.range n).map fun i => v / 256 ^ (n - 1 - i) % 256
theorem beL_len (v : Int) (n : Nat) : (beL v n).length = n := by simp [beL]
theorem beL_take (v : Int) (n q : Nat) (h : q < n) : (beL v n).take (q + 1) = (beL v n).take q ++ [v / 256 ^ (n - 1 - q) % 256] := by
  rw [take_snoc (by rw [beL_len]; exact h)]
  simp [beL]
theorem p256 (k : Nat) (h : k ≤ 4) : 0 < (256 : Int) ^ k ∧ (256 : Int) ^ k ≤ 4294967296 := by
  rcases (by omega : k = 0 ∨ k = 1 ∨ k = 2 ∨ k = 3 ∨ k = 4) with rfl | rfl | rfl | rfl | rfl <;> decide
section
variable {e : Ends} {w : World} {R : SV → World → Prop}
theorem c89 {N : Nat} {b : Sl} {l : List Int} {v : Int} {n : Nat} (h : SeesB w b l) (o : Own N 1 w b) (hN : N ≤ w.heap.size) (hl : l.length ≤ 70368744177000) (hv : 0 ≤ v ∧ v ≤ 4294967295) (h1 : 1 ≤ n) (h4 : n ≤ 4)
    (k : ∀ r w1, Upd b.blk [] w w1 → SeesB w1 r (l ++ beL v n) → Own N 1 w1 r → R (.slice r) w1) : Ret Tryd.prog 89 [.slice b, .int .i64 v, .int .i64 (n : Int)] w R := by
  refine f89_of _ _ _ _ _ ?_
  unfold vc89
  refine ⟨fun p i w1 => w1 = w ∧ ∃ q : Nat, i = ((q + 1 : Nat) : Int) ∧ q + 1 ≤ n ∧ p = 256 ^ q, fun _ i _ => (n - i).toNat, ⟨rfl, 0, rfl, h1, rfl⟩, ?_⟩
  rintro p i w1 ⟨rfl, q, rfl, hq, rfl⟩
  have hp := p256 q (by omega)
  refine brd (fun hlt => ?_) (fun hge => ?_)
  · have hp1 := p256 (q + 1) (by omega)
    have e1 : (256 : Int) ^ q * 256 = 256 ^ (q + 1) := (Int.pow_succ _ _).symm
    rw [wr_i64 (x := 256 ^ q * 256) (by omega) (by omega), e1]
    exact ⟨⟨rfl, q + 1, wr_succ (by omega), by omega, rfl⟩, by rw [wr_succ (q := q + 1) (by omega)]; (try dsimp only); omega⟩
  have hqn : q = n - 1 := by omega
  subst hqn
  refine ⟨fun s p i w2 => Upd b.blk [] w1 w2 ∧ Own N 1 w2 s ∧ (∀ x ∈ s.blk, x ∈ b.blk ∨ w1.heap.size ≤ x) ∧ ∃ q : Nat, i = q ∧ q ≤ n ∧ (q < n → p = 256 ^ (n - 1 - q)) ∧ SeesB w2 s (l ++ (beL v n).take q), fun _ _ i _ => (n - i).toNat, ⟨(Upd.refl _).wide (by simp), o, fun x hx => .inl hx, 0, rfl, by omega, fun _ => rfl, by simpa using h⟩, ?_⟩
  rintro s p i w2 ⟨u2, o2, hbs, q, rfl, hq2, hp2, hs2⟩
  refine brd (fun hlt => ?_) (fun hge => ?_)
  · have hq3 : q < n := by omega
    have e2 := hp2 hq3
    subst e2
    have hp3 := p256 (n - 1 - q) (by omega)
    refine needNe (by omega) ?_
    intro b3 w3 u3 hr3
    have hd : 0 ≤ v / 256 ^ (n - 1 - q) ∧ v / 256 ^ (n - 1 - q) ≤ v := ⟨Int.ediv_nonneg hv.1 (by omega), Int.ediv_le_self _ hv.1⟩
    rw [tdiv_pos hv.1, wr_i64 (x := v / 256 ^ (n - 1 - q)) (by omega) (by omega), tmod_pos hd.1, wr_u8, show v / 256 ^ (n - 1 - q) % 256 % 256 = v / 256 ^ (n - 1 - q) % 256 by omega] at hr3
    have y2 := u2.size; have y3 := u3.size
    refine append_own (c := cU8) (new := [v / 256 ^ (n - 1 - q) % 256]) (hs2.old u3) (o2.old u3) (rowB hr3 _ rfl rfl) (by omega) (by simp) (by decide) (by simp [beL_len]; omega) fun r w4 hr4 ho4 u4 hn4 => ?_
    have hb4 : ∀ x ∈ r.blk, x ∈ b.blk ∨ w1.heap.size ≤ x := fun x hx => by
      rcases hn4 x hx with y | y
      · exact hbs x y
      · exact .inr (by omega)
    refine ⟨⟨(u2.step u3 (by simp)).step u4 (fun x hx => (hbs x hx).symm), ho4, hb4, q + 1, wr_succ (by omega), by omega, fun hlt2 => ?_, ?_⟩, by rw [wr_succ (q := q) (by omega)]; (try dsimp only); omega⟩
    · rw [tdiv_pos (by omega)]
      have e3 : (256 : Int) ^ (n - 1 - q) = 256 ^ (n - 1 - (q + 1)) * 256 := by rw [← Int.pow_succ]; congr 1; omega
      have hp5 := p256 (n - 1 - (q + 1)) (by omega)
      rw [e3, Int.mul_ediv_cancel _ (by decide), wr_i64 (by omega) (by omega)]
    · rw [beL_take _ _ _ hq3, ← List.append_assoc]; exact hr4
  · have : q = n := by omega
    subst this
    rw [List.take_of_length_le (by rw [beL_len]; omega)] at hs2
    exact k s w2 u2 hs2 o2
theorem beL2 (v : Int) : beL v 2 = [v / 256 % 256, v % 256] := by simp [beL, List.range, List.range.loop]
theorem beL1 (v : Int) : beL v 1 = [v % 256] := by simp [beL, List.range, List.range.loop]
theorem beL4 (v : Int) : beL v 4 = [v / 16777216 % 256, v / 65536 % 256, v / 256 % 256, v % 256] := by simp [beL, List.range, List.range.loop]
theorem udPE_fit {u : UdV} (hf : e.fit) : udPE e u = udChk e.sv u := by unfold udPE; rw [if_neg (Classical.not_not.2 hf)]
theorem udPE_no {u : UdV} (hf : ¬ e.fit) : udPE e u = 20 := by unfold udPE; rw [if_pos hf]
theorem ud_set (u : UdV) (c : Int) (hc : 0 ≤ c ∧ c ≤ 65535) : ((udHd u 0 ++ u.data).set 6 (c / 256 % 256)).set 7 (c % 256) = udHd u c ++ u.data := rfl
theorem two_set {r : Sl} {l l' : List Int} {N a : Nat} {x y : Int} {bs : List Nat} (h : SeesB w r l) (o : Own N 1 w r) (hbs : ∀ z ∈ r.blk, z ∉ bs) (ha : a + 1 < l.length) {G : World → Prop} (hl : (l.set a x).set (a + 1) y = l')
    (k : ∀ w1, Upd r.blk [] w w1 → SeesB w1 r l' → Own N 1 w1 r → G w1) :
    Need (decide ((a : Int) < (r.len : Int)) && r.ptr.isSome) (Store w (r.at 1 a) (SV.cells (.int .u8 x)) bs fun w1 => Need (decide (((a + 1 : Nat) : Int) < (r.len : Int)) && r.ptr.isSome) (Store w1 (r.at 1 (a + 1)) (SV.cells (.int .u8 y)) bs G)) := by
  subst hl
  refine needCB h a (by omega) (own_set (c := cU8) (x := x) h o (by decide) (by omega) rfl hbs fun w1 h1 o1 u1 => ?_)
  refine needCB h1 (a + 1) (by simp; omega) (own_set (c := cU8) (x := y) h1 o1 (by decide) (by simp; omega) rfl hbs fun w2 h2 o2 u2 => ?_)
  exact k w2 (u1.step u2 (fun x hx => .inr hx)) h2 o2
set_option maxRecDepth 10000 in
theorem c19 {u : UdV} {d : Sl} (hg : Tabs w) (o : e.Ok) (f : UFit u) (hd : SeesB w d u.data) (k : ∀ r w1, Upd [] [] w w1 → SeesB w1 r (udSerL e u) → Own w.heap.size 1 w1 r → R (.tuple [.slice r, .int .i64 (udPE e u)]) w1) : Ret Tryd.prog 19 [adr e.sv e.sa, adr e.dv e.da, udSV u d] w R := by
  refine f19_of _ _ _ _ _ _ _ _ _ _ ?_
  unfold vc19
  have hdl := hd.len
  intro b b1 b2 w1 u1
  have n0 := u1.new (b := b) (by simp)
  have n1 := u1.new (b := b1) (by simp)
  have n2 := u1.new (b := b2) (by simp)
  refine c70 fun w2 u2 => ⟨_, rfl, kp u2, ?_⟩
  have v2 := u1.then u2
  have kn : ∀ x w3, Upd [] [] w w3 → udPE e u = x → x ≠ 0 → R (.tuple [.slice ⟨none, 0, 0⟩, .int .i64 x]) w3 := fun x w3 u3 he hn => by
    have := k ⟨none, 0, 0⟩ w3 u3 (by unfold udSerL; rw [if_neg (by omega)]; exact Sees.nil _ _ _ _) (Own.none _ _ _)
    rwa [he] at this
  intro J hJ
  by_cases hf : e.fit
  rotate_left
  · rw [if_neg hf]
    refine brf (by decide) ?_
    (repeat refine And.intro rfl ?_)
    exact hJ _ _ (brt (by decide) (kn _ _ v2 (udPE_no hf) (by decide)))
  rw [if_pos hf]
  refine brt rfl (c25 hdl fun w3 u3 => ⟨_, rfl, kp u3, ?_⟩)
  (repeat refine And.intro rfl ?_)
  have v3 := v2.then u3
  refine hJ _ _ ?_
  clear hJ
  refine bre' (fun hne => kn _ _ v3 (udPE_fit hf) hne) (fun hc => ?_)
  have hpe : udPE e u = 0 := by rw [udPE_fit hf]; exact hc
  obtain ⟨h1, h2, h3, h4, h5⟩ := udChk_ok hc
  have k' : ∀ r w1, Upd [] [] w w1 → SeesB w1 r (udSer e u) → Own w.heap.size 1 w1 r → R (.tuple [.slice r, .int .i64 0]) w1 := fun r w1 u' hr ho => by
    have := k r w1 u' (by unfold udSerL; rw [if_pos hpe]; exact hr) ho
    rwa [hpe] at this
  refine ⟨fun i => widthsU.getD i 0, fun i hi => ?_, ?_⟩
  · have := intAt (hg.u.old v3) i hi
    rw [show widU.at 1 i = (Addr.add ⟨0, 0, none⟩ (0 + i)) by simp [Sl.at, widU]] at this
    rw [this]
    simp only [List.getD_eq_getElem?_getD, List.getElem?_eq_getElem (show i < widthsU.length from hi), Option.getD_some]
    rfl
  intro b4 w4 u4 hr4 _
  have v4 := v3.then u4
  have y1 := u1.size; have y2 := u2.size; have y3 := u3.size; have y4 := u4.size
  have hws : ∀ w5, Upd [] [b4] w3 w5 → True := fun _ _ => trivial
  have hws4 : Sees cI64 w4 (Sl.sub ⟨some ⟨b4, 0, none⟩, 4, 4⟩ 1 0 4 4) widthsU := by
    have : Sees cI64 w4 ⟨some ⟨b4, 0, none⟩, 4, 4⟩ widthsU := sees_row hr4 _ rfl rfl
    rw [sub_lit (by omega)]; exact this
  rw [wr_i64 (x := 8 + (d.len : Int)) (by omega) (by omega)]
  refine ⟨⟨Upd.refl _, fun b5 w5 u5 hr5 => ?_⟩, fun b5 w5 u5 hr5 => ⟨u5.forget, ?_⟩⟩
  all_goals
    have v5 := v4.then u5
    have y5 := u5.size
    have hvs : Sees cI64 w5 ⟨some ⟨b5, 0, none⟩, 4, 4⟩ (packU u) := sees_row hr5 _ (by rw [hdl]; rfl) rfl
    refine c71 (hws4.old u5) hvs widU_ok rfl (fun i hi => packU_r hc i hi hi) fun s1 w6 u6 hs6 ho6 => ⟨_, _, rfl, kp u6, ?_⟩
    have e12 : packB widthsU (packU u) (wsum widthsU / 8) = udHd u 0 := packU_eq u
    rw [e12] at hs6
    have v6 := v5.then u6
    have y6 := u6.size
    have nb : ∀ {s : Sl} {w' : World}, Own w5.heap.size 1 w' s → ∀ x ∈ s.blk, x ∉ [b, b1, b2] := fun o' x hx hm => by have := (o'.blk x hx).1; simp at hm; omega
    refine append_own (c := cU8) hs6 ho6 (hd.old v6) u6.size (nb ho6) (by decide) (by rw [udHd_len]; omega) fun r w7 hr7 ho7 u7 _ => ?_
    have v7 := v6.step0 u7 (fun x hx => by have := (ho6.blk x hx).1; omega)
    have y7 := u7.size
    refine brb (fun hns => ?_) (fun hns => ?_)
    · refine k' r w7 v7 ?_ (ho7.mono (by omega))
      unfold udSer udCk
      rw [if_pos hns]
      exact hr7
    · have hrl := hr7.len
      rw [List.length_append, udHd_len] at hrl
      refine c22 fun s w8 u8 hs8 _ => ⟨_, _, rfl, kp u8, ?_⟩
      have v8 := v7.then u8
      have hpf := psE_fit hf (p := 17) (n := (r.len : Int)) (by omega) (by omega)
      rw [hpf.2] at hs8
      intro b9 w9 u9 hr9
      have v9 := v8.then u9
      have hr79 := (hr7.old u8).old u9
      have hP := rowP (n := 2) (cap := 2) hr9 (ss := [s, r]) rfl rfl (ls := [psB e 17 (r.len : Int), udHd u 0 ++ u.data]) ⟨hs8.old u9, hr79, trivial⟩
      have hpl := psB_len e 17 (r.len : Int)
      refine c72 hP (by simp; exact ⟨psB_byt o, (udHd_byt u 0).app f.data⟩) (by simp) (by simp [udHd_len]; omega) ⟨_, rfl, kp (Upd.refl _), ?_⟩
      have ec : 65535 - sumOf ([psB e 17 (r.len : Int), udHd u 0 ++ u.data] : List (List Int)).flatten = udCk0 e u := by
        unfold udCk0 psum
        rw [hr7.len]
        simp
      rw [ec]
      intro J hJ
      have hk0 := udCk0_r o f
      have ho79 := (ho7.old u8).old u9
      have main : ∀ c, 0 ≤ c ∧ c ≤ 65535 → udCk e u = c → J c w9 := fun c hc2 he => by
        refine hJ _ _ ?_
        have w1' : wr .u8 (gshr .i64 c 8) = c / 256 % 256 := by rw [gshr8, wr_u8]
        rw [w1', wr_u8]
        refine two_set hr79 ho79 (nb ho79) (a := 6) (by simp [udHd_len]; omega) (l' := udSer e u) (by unfold udSer; rw [he]; exact ud_set u c hc2) fun w10 u10 hs10 ho10 => ?_
        exact k' r w10 (v9.step0 u10 (fun x hx => by have := (ho79.blk x hx).1; omega)) hs10 (ho10.mono (by omega))
      have he : udCk e u = if udCk0 e u = 0 then 65535 else udCk0 e u := by unfold udCk; rw [if_neg (by rw [hns]; decide)]
      refine bre (fun hz => ?_) (fun hz => ?_)
      · (repeat refine And.intro rfl ?_)
        exact main _ (by omega) (by rw [he, if_pos hz])
      · (repeat refine And.intro rfl ?_)
        exact main _ (by omega) (by rw [he, if_neg hz])
set_option maxRecDepth 10000 in
theorem c54 {u : UdV} {d : Sl} (o : e.Ok) (f : UFit u) (hd : SeesB w d u.data) (hdl' : u.data.length ≤ 140737488355328) (k : ∀ r w1, Upd [] [] w w1 → SeesB w1 r (udSerL e u) → Own w.heap.size 1 w1 r → R (.tuple [.slice r, .int .i64 (udPE e u)]) w1) : Ret Tryd.prog 54 [adr e.sv e.sa, adr e.dv e.da, udSV u d] w R := by
  refine f54_of _ _ _ _ _ _ _ _ _ _ ?_
  unfold vc54
  have hdl := hd.len
  intro b b1 b2 w1 u1
  have n0 := u1.new (b := b) (by simp)
  have n1 := u1.new (b := b1) (by simp)
  have n2 := u1.new (b := b2) (by simp)
  refine c83 fun w2 u2 => ⟨_, rfl, kp u2, ?_⟩
  have v2 := u1.then u2
  have kn : ∀ x w3, Upd [] [] w w3 → udPE e u = x → x ≠ 0 → R (.tuple [.slice ⟨none, 0, 0⟩, .int .i64 x]) w3 := fun x w3 u3 he hn => by
    have := k ⟨none, 0, 0⟩ w3 u3 (by unfold udSerL; rw [if_neg (by omega)]; exact Sees.nil _ _ _ _) (Own.none _ _ _)
    rwa [he] at this
  refine brn (fun hf => kn _ _ v2 (udPE_no (of_decide_eq_false hf)) (by decide)) (fun hf' => ?_)
  have hf := of_decide_eq_true hf'
  refine c59 hdl hdl' fun w3 u3 => ⟨_, rfl, kp u3, ?_⟩
  have v3 := v2.then u3
  refine bre' (fun hne => kn _ _ v3 (udPE_fit hf) hne) (fun hc => ?_)
  have hpe : udPE e u = 0 := by rw [udPE_fit hf]; exact hc
  obtain ⟨h1, h2, h3, h4, h5⟩ := udChk_ok hc
  have k' : ∀ r w1, Upd [] [] w w1 → SeesB w1 r (udSer e u) → Own w.heap.size 1 w1 r → R (.tuple [.slice r, .int .i64 0]) w1 := fun r w1 u' hr ho => by
    have := k r w1 u' (by unfold udSerL; rw [if_pos hpe]; exact hr) ho
    rwa [hpe] at this
  have y1 := u1.size; have y2 := u2.size; have y3 := u3.size
  rw [wr_i64 (x := 8 + (d.len : Int)) (by omega) (by omega)]
  have nb : ∀ {s : Sl} {w' : World}, Own w3.heap.size 1 w' s → ∀ x ∈ s.blk, x ∉ [b, b1, b2] := fun o' x hx hm => by have := (o'.blk x hx).1; simp at hm; omega
  have kk : ∀ {s : Sl} {w' w'' : World}, Own w3.heap.size 1 w' s → w3.heap.size ≤ w'.heap.size → Upd s.blk [] w' w'' → Keeps [b, b1, b2] w' w'' := fun o' hz u' => kpm u' (by simp; omega) (fun x hx hm => nb o' x hm hx)
  refine c89 (n := 2) (Sees.nil _ _ _ _) (Own.none w3.heap.size _ _) (Nat.le_refl _) (by simp) (by omega) (by omega) (by omega) fun s4 w4 u4 hs4 ho4 => ⟨_, rfl, kk (Own.none _ _ _) (Nat.le_refl _) u4, ?_⟩
  have t4 : Upd [] [] w3 w4 := u4
  refine c89 (n := 2) hs4 ho4 t4.size (by simp [beL_len]) (by omega) (by omega) (by omega) fun s5 w5 u5 hs5 ho5 => ⟨_, rfl, kk ho4 t4.size u5, ?_⟩
  have t5 := t4.step0 u5 (fun x hx => (ho4.blk x hx).1)
  refine c89 (n := 2) hs5 ho5 t5.size (by simp [beL_len]) (by omega) (by omega) (by omega) fun s6 w6 u6 hs6 ho6 => ⟨_, rfl, kk ho5 t5.size u6, ?_⟩
  have t6 := t5.step0 u6 (fun x hx => (ho5.blk x hx).1)
  refine c89 (n := 2) hs6 ho6 t6.size (by simp [beL_len]) (by omega) (by omega) (by omega) fun s7 w7 u7 hs7 ho7 => ⟨_, rfl, kk ho6 t6.size u7, ?_⟩
  have t7 := t6.step0 u7 (fun x hx => (ho6.blk x hx).1)
  have e8 : [] ++ beL u.sp 2 ++ beL u.dp 2 ++ beL (8 + (d.len : Int)) 2 ++ beL 0 2 = udHd u 0 := by
    rw [beL2, beL2, beL2, beL2, hdl]; rfl
  rw [e8] at hs7
  have v7 := v3.then t7
  refine append_own (c := cU8) hs7 ho7 (hd.old v7) t7.size (nb ho7) (by decide) (by rw [udHd_len]; omega) fun r w8 hr8 ho8 u8 _ => ?_
  have t8 := t7.step0 u8 (fun x hx => (ho7.blk x hx).1)
  have v8 := v3.then t8
  refine brb (fun hns => ?_) (fun hns => ?_)
  · refine k' r w8 v8 ?_ (ho8.mono (by omega))
    unfold udSer udCk
    rw [if_pos hns]
    exact hr8
  · have hrl := hr8.len
    rw [List.length_append, udHd_len] at hrl
    refine c90 hf o (by omega) hr8 ((udHd_byt u 0).app f.data) (by simp [udHd_len]; omega) fun w9 u9 => ⟨_, rfl, kp u9, ?_⟩
    have ec : 65535 - psum e 17 (udHd u 0 ++ u.data) = udCk0 e u := rfl
    rw [ec]
    intro J hJ
    have hk0 := udCk0_r o f
    have hr89 := hr8.old u9
    have ho89 := ho8.old u9
    have v9 := v8.then u9
    have main : ∀ c, 0 ≤ c ∧ c ≤ 65535 → udCk e u = c → J c w9 := fun c hc2 he => by
      refine hJ _ _ ?_
      rw [tdiv_pos hc2.1, wr_i64 (x := c / 256) (by omega) (by omega), tmod_pos hc2.1, wr_u8, wr_u8, show c % 256 % 256 = c % 256 by omega]
      refine two_set hr89 ho89 (nb ho89) (a := 6) (by simp [udHd_len]; omega) (l' := udSer e u) (by unfold udSer; rw [he]; exact ud_set u c hc2) fun w10 u10 hs10 ho10 => ?_
      exact k' r w10 (v9.step0 u10 (fun x hx => by have := (ho89.blk x hx).1; omega)) hs10 (ho10.mono (by omega))
    have he : udCk e u = if udCk0 e u = 0 then 65535 else udCk0 e u := by unfold udCk; rw [if_neg (by rw [hns]; decide)]
    refine bre (fun hz => ?_) (fun hz => ?_)
    · (repeat refine And.intro rfl ?_)
      exact main _ (by omega) (by rw [he, if_pos hz])
    · (repeat refine And.intro rfl ?_)
      exact main _ (by omega) (by rw [he, if_neg hz])
end
end Go.Vc.S9
end

section
open Go Go.Vc Go.Proofs
set_option linter.unusedVariables false
set_option linter.unusedSimpArgs false
set_option autoImplicit false
namespace Go.Vc.S9
abbrev tcSV (t : TcV) (s d : Sl) : SV := .struct [.int .i64 t.sp, .int .i64 t.dp, .int .i64 t.seq, .int .i64 t.ack, .int .i64 t.fl, .int .i64 t.win, .int .i64 t.urg, .slice s, .slice d]
noncomputable def dT (e : Ends) (b : Sl) (l : List Int) : Sl := if tcErr e l = 0 then b.sub 1 (tcHd l) l.length l.length else ⟨none, 0, 0⟩
noncomputable def osT (e : Ends) (b : Sl) (l : List Int) : List (Int × Sl) := if tcErr e l = 0 then (tps l).map (osAt (b.sub 1 20 (tcHd l) (tcHd l)) (tob l)) else []
section
variable {e : Ends} {w : World} {R : SV → World → Prop} {t : TcV} {s d : Sl} {os : List (Int × Sl)}
theorem bad98 (h : badT t) : tcChk t = 98 := by unfold tcChk; rw [if_pos h]
theorem chk97 (h : ¬ badT t) (h2 : ¬ putOk9 t.opts) : tcChk t = 97 := by unfold tcChk; rw [if_neg h, if_pos h2]
theorem chk2 (h : ¬ badT t) (h2 : putOk9 t.opts) : tcChk t = if 65535 < 20 + (putO t.opts).length + t.data.length then 2 else 0 := by unfold tcChk; rw [if_neg h, if_neg (Classical.not_not.2 h2)]
set_option maxRecDepth 10000 in
theorem c29 (hg : Tabs w) (hO : Opts w s t.opts os) (hl : t.opts.length < 9223372036854775807) (hod : ∀ o ∈ t.opts, o.data.length ≤ 140737488355328) (hd : d.len = t.data.length) (hdl : t.data.length ≤ 140737488355328)
    (k : ∀ w1, Upd [] [] w w1 → R (.int .i64 (tcChk t)) w1) : Ret Tryd.prog 29 [tcSV t s d] w R := by
  refine f29_of _ _ _ _ _ _ _ _ _ _ _ ?_
  unfold vc29
  intro b J hJ w1 u1
  have k1 : ∀ x w2, Upd [] [] w w2 → tcChk t = x → R (.int .i64 x) w2 := fun x w2 u he => he ▸ k w2 u
  have bad : badT t → R (.int .i64 98) w1 := fun h => k1 _ _ u1.forget (bad98 h)
  refine c77 ⟨_, rfl, kp (Upd.refl _), brb (fun h => bad (.inl (of_decide_eq_true h))) (fun h0 => ?_)⟩
  refine c77 ⟨_, rfl, kp (Upd.refl _), brb (fun h => bad (.inr (.inl (of_decide_eq_true h)))) (fun h1 => ?_)⟩
  refine c77 ⟨_, rfl, kp (Upd.refl _), brb (fun h => bad (.inr (.inr (.inl (of_decide_eq_true h))))) (fun h2 => ?_)⟩
  refine c77 ⟨_, rfl, kp (Upd.refl _), brb (fun h => bad (.inr (.inr (.inr (.inl (of_decide_eq_true h)))))) (fun h3 => ?_)⟩
  refine c77 ⟨_, rfl, kp (Upd.refl _), brb (fun h => bad (.inr (.inr (.inr (.inr (.inl (of_decide_eq_true h))))))) (fun h4 => ?_)⟩
  refine c77 ⟨_, rfl, kp (Upd.refl _), brb (fun h => bad (.inr (.inr (.inr (.inr (.inr (.inl (of_decide_eq_true h)))))))) (fun h5 => ?_)⟩
  refine c77 ⟨_, rfl, kp (Upd.refl _), brb (fun h => bad (.inr (.inr (.inr (.inr (.inr (.inr (of_decide_eq_true h)))))))) (fun h6 => ?_)⟩
  have good : ¬ badT t := by
    rintro (x | x | x | x | x | x | x)
    · exact of_decide_eq_false h0 x
    · exact of_decide_eq_false h1 x
    · exact of_decide_eq_false h2 x
    · exact of_decide_eq_false h3 x
    · exact of_decide_eq_false h4 x
    · exact of_decide_eq_false h5 x
    · exact of_decide_eq_false h6 x
  (repeat refine And.intro rfl ?_)
  refine hJ _ ?_
  refine c39 (hg.l.old u1) (hO.old u1) hl hod fun r w4 u4 hr ho => ⟨_, _, rfl, kp u4, ?_⟩
  have v4 := u1.then u4
  have hrl := hr.len
  by_cases hp : putOk9 t.opts
  · unfold putE9
    unfold putL9 at hrl
    rw [if_pos hp] at hrl ⊢
    have hpl := putO_len hp.1
    rw [wr_i64 (x := 20 + (r.len : Int)) (by omega) (by omega), wr_i64 (by omega) (by omega)]
    have e2 := chk2 (t := t) good hp
    refine brf (by simp) (brd (fun h => k1 _ _ v4 (by rw [e2, if_pos (by omega)])) (fun h => k1 _ _ v4 (by rw [e2, if_neg (by omega)])))
  · unfold putE9
    rw [if_neg hp]
    exact brt (by simp) (k1 _ _ v4 (chk97 good hp))
set_option maxRecDepth 10000 in
theorem c60 (hO : Opts w s t.opts os) (hl : t.opts.length ≤ 1099511627776) (hod : ∀ o ∈ t.opts, o.data.length ≤ 140737488355328) (hd : d.len = t.data.length) (hdl : t.data.length ≤ 140737488355328)
    (k : ∀ w1, Upd [] [] w w1 → R (.int .i64 (tcChk t)) w1) : Ret Tryd.prog 60 [tcSV t s d] w R := by
  refine f60_of _ _ _ _ _ _ _ _ _ _ _ ?_
  unfold vc60
  intro b J hJ w1 u1
  have k1 : ∀ x w2, Upd [] [] w w2 → tcChk t = x → R (.int .i64 x) w2 := fun x w2 u he => he ▸ k w2 u
  have bad : badT t → R (.int .i64 98) w1 := fun h => k1 _ _ u1.forget (bad98 h)
  refine c93 ⟨_, rfl, kp (Upd.refl _), brb (fun h => bad (.inl (of_decide_eq_true h))) (fun h0 => ?_)⟩
  refine c93 ⟨_, rfl, kp (Upd.refl _), brb (fun h => bad (.inr (.inl (of_decide_eq_true h)))) (fun h1 => ?_)⟩
  refine c93 ⟨_, rfl, kp (Upd.refl _), brb (fun h => bad (.inr (.inr (.inl (of_decide_eq_true h))))) (fun h2 => ?_)⟩
  refine c93 ⟨_, rfl, kp (Upd.refl _), brb (fun h => bad (.inr (.inr (.inr (.inl (of_decide_eq_true h)))))) (fun h3 => ?_)⟩
  refine c93 ⟨_, rfl, kp (Upd.refl _), brb (fun h => bad (.inr (.inr (.inr (.inr (.inl (of_decide_eq_true h))))))) (fun h4 => ?_)⟩
  refine c93 ⟨_, rfl, kp (Upd.refl _), brb (fun h => bad (.inr (.inr (.inr (.inr (.inr (.inl (of_decide_eq_true h)))))))) (fun h5 => ?_)⟩
  refine c93 ⟨_, rfl, kp (Upd.refl _), brb (fun h => bad (.inr (.inr (.inr (.inr (.inr (.inr (of_decide_eq_true h)))))))) (fun h6 => ?_)⟩
  have good : ¬ badT t := by
    rintro (x | x | x | x | x | x | x)
    · exact of_decide_eq_false h0 x
    · exact of_decide_eq_false h1 x
    · exact of_decide_eq_false h2 x
    · exact of_decide_eq_false h3 x
    · exact of_decide_eq_false h4 x
    · exact of_decide_eq_false h5 x
    · exact of_decide_eq_false h6 x
  (repeat refine And.intro rfl ?_)
  refine hJ _ ?_
  refine c56 (hO.old u1) hl hod fun r w4 u4 hr ho => ⟨_, _, rfl, kp u4, ?_⟩
  have v4 := u1.then u4
  have hrl := hr.len
  by_cases hp : putOk9 t.opts
  · unfold putE9
    unfold putL9 at hrl
    rw [if_pos hp] at hrl ⊢
    have hpl := putO_len hp.1
    rw [wr_i64 (x := 20 + (r.len : Int)) (by omega) (by omega), wr_i64 (by omega) (by omega)]
    have e2 := chk2 (t := t) good hp
    refine brf (by simp) (brd (fun h => k1 _ _ v4 (by rw [e2, if_pos (by omega)])) (fun h => k1 _ _ v4 (by rw [e2, if_neg (by omega)])))
  · unfold putE9
    rw [if_neg hp]
    exact brt (by simp) (k1 _ _ v4 (chk97 good hp))
theorem dT_sees {b : Sl} {l : List Int} (h : SeesB w b l) : SeesB w (dT e b l) (tcOf e l).data := by
  unfold dT tcOf
  by_cases he : tcErr e l = 0
  · rw [if_pos he, if_pos he]
    obtain ⟨_, _, h3, h4, _⟩ := tcErr_ok he
    have := h.subB (lo := tcHd l) (hi := l.length) (mx := l.length) h4 (Nat.le_refl _) (Nat.le_refl _)
    rw [List.take_length] at this
    exact this
  · rw [if_neg he, if_neg he]; exact Sees.nil _ _ _ _
theorem osT_opts {b s : Sl} {l : List Int} (hb : Byt l) (h : SeesB w b l) (hs : Sees cOpt w s (osT e b l)) : Opts w s (tcOf e l).opts (osT e b l) := by
  unfold osT tcOf at *
  by_cases he : tcErr e l = 0
  · rw [if_pos he] at hs ⊢
    rw [if_pos he]
    obtain ⟨_, _, h3, h4, _, h6⟩ := tcErr_ok he
    have hsub := h.subB (lo := 20) (hi := tcHd l) (mx := tcHd l) h3 h4 (Nat.le_refl _)
    exact opts_win hs hsub (optsP_places ok9_two (tob_byt hb) h6).1
  · rw [if_neg he] at hs ⊢
    rw [if_neg he]
    exact ⟨hs, rfl, by simp [tcZ], by simp [tcZ]⟩
theorem tcHd_int {l : List Int} (hb : Byt l) : 4 * (bt l 12 / 16) = (tcHd l : Int) := by
  have := hb.bt 12
  unfold tcHd; omega
set_option maxRecDepth 10000 in
theorem c27 {b : Sl} {l : List Int} (hg : Tabs w) (o : e.Ok) (h : SeesB w b l) (hb : Byt l) (hc : b.len ≤ b.cap) (hl : l.length ≤ 140737488355328)
    (k : ∀ s w1, Upd [] [] w w1 → Sees cOpt w1 s (osT e b l) → Own w.heap.size 2 w1 s → R (.tuple [tcSV (tcOf e l) s (dT e b l), .int .i64 (tcErr e l)]) w1) : Ret Tryd.prog 27 [adr e.sv e.sa, adr e.dv e.da, .slice b] w R := by
  refine f27_of _ _ _ _ _ _ _ ?_
  unfold vc27
  have hlen := h.len
  rw [hlen]
  have ke : ∀ x w1, Upd [] [] w w1 → tcErr e l = x → x ≠ 0 → R (.tuple [tcSV tcZ ⟨none, 0, 0⟩ ⟨none, 0, 0⟩, .int .i64 x]) w1 := fun x w1 u he hn => by
    have hn' : ¬ tcErr e l = 0 := by omega
    have e1 : tcOf e l = tcZ := by unfold tcOf; rw [if_neg hn']
    have e2 : dT e b l = ⟨none, 0, 0⟩ := by unfold dT; rw [if_neg hn']
    have := k ⟨none, 0, 0⟩ w1 u (by unfold osT; rw [if_neg hn']; exact Sees.nil _ _ _ _) (Own.none _ _ _)
    rwa [e1, e2, he] at this
  have nf := fun (hf : e.fit) => Classical.not_not.2 hf
  intro b1 b2 b3
  refine brd (fun hgt w1 u => ke _ _ u.forget (by unfold tcErr; rw [if_pos (by omega)]) (by decide)) (fun hle => ?_)
  intro w1 u1
  refine c70 fun w2 u2 => ⟨_, rfl, kp u2, ?_⟩
  have v2 := u1.then u2
  have n3 := u1.new (b := b3) (by simp)
  have fr : ∀ x ∈ [b3], w.heap.size ≤ x := by simp; omega
  by_cases hf : e.fit
  rotate_left
  · rw [if_neg hf]
    exact brt (by decide) fun w3 u3 => ke _ _ (v2.step0 u3 fr) (by unfold tcErr; rw [if_neg (by omega), if_pos hf]) (by decide)
  rw [if_pos hf]
  refine brf (by decide) (brd (fun h8 w3 u3 => ke _ _ (v2.step0 u3 fr) (by unfold tcErr; rw [if_neg (by omega), if_neg (nf hf), if_pos (by omega)]) (by decide)) (fun h8 => ?_))
  refine ⟨fun i => widthsT.getD i 0, fun i hi => ?_, ?_⟩
  · have := intAt (hg.t.old v2) i hi
    rw [show widT.at 1 i = (Addr.add ⟨1, 0, none⟩ (0 + i)) by simp [Sl.at, widT]] at this
    rw [this]
    simp only [List.getD_eq_getElem?_getD, List.getElem?_eq_getElem (show i < widthsT.length from hi), Option.getD_some]
    rfl
  intro b4 w3 u3 hr3 _
  have hws : Sees cI64 w3 (Sl.sub ⟨some ⟨b4, 0, none⟩, 10, 10⟩ 1 0 10 10) widthsT := by
    have : Sees cI64 w3 ⟨some ⟨b4, 0, none⟩, 10, 10⟩ widthsT := sees_row hr3 _ rfl rfl
    rw [sub_lit (by omega)]; exact this
  have v3 := v2.then u3
  refine c73 (h.old v3) hb hc (by omega) hws widT_ok (by show 20 ≤ l.length; omega) fun F n w4 u4 hF => ⟨_, _, _, rfl, kp u4, ?_⟩
  rw [fieldsT hb] at hF
  have v4 := v3.then u4
  have hFl := hF.len
  have hFp := hF.isSome (by decide) (by simp)
  have at_ : ∀ {w' : World}, Upd [] [] w4 w' → ∀ (i : Nat) (hi : i < 10), w'.cell? (F.at 1 i) = some (.int .i64 ([W16 l 0, W16 l 2, W32 l 4, W32 l 8, bt l 12 / 16, bt l 12 % 16, bt l 13, W16 l 14, W16 l 16, W16 l 18][i]'hi)) := fun u i hi => intAt (hF.old u) i hi
  have nd : ∀ (i : Nat) {X : Prop}, i < 10 → X → Need (decide ((i : Int) < (F.len : Int)) && F.ptr.isSome) X := fun i X hi x => needC (by rw [hFl]; exact_mod_cast hi) hFp x
  have bb12 := hb.bt 12
  refine nd 4 (by omega) ⟨bt l 12 / 16, at_ (Upd.refl _) 4 (by omega), ?_⟩
  rw [wr_i64 (x := 4 * (bt l 12 / 16)) (by omega) (by omega), tcHd_int hb]
  intro J hJ
  have e95 : tcHd l < 20 ∨ l.length < tcHd l → tcErr e l = 95 := fun hx => by unfold tcErr; rw [if_neg (by omega), if_neg (nf hf), if_neg (by omega), if_pos hx]
  refine brd (fun hx w5 u5 => ke _ _ (v4.step0 u5 fr) (e95 (by omega)) (by decide)) (fun g1 => ?_)
  refine brd (fun hx w5 u5 => ke _ _ (v4.step0 u5 fr) (e95 (by omega)) (by decide)) (fun g2 => ?_)
  have e96 : tcErr e l = if psum e 6 l ≠ 65535 then 96 else if optsP ok9 (tob l) = none then 97 else 0 := by unfold tcErr; rw [if_neg (by omega), if_neg (nf hf), if_neg (by omega), if_neg (by omega)]
  refine c74 hf o (by omega) (h.old v4) hb (by omega) fun w5 u5 => ⟨_, rfl, kp u5, ?_⟩
  have v5 := v4.then u5
  refine brn (fun hx w6 u6 => ke _ _ (v5.step0 u6 fr) (by rw [e96, if_pos (by simpa using hx)]) (by decide)) (fun hs => ?_)
  rw [if_neg (Classical.not_not.2 (by simpa using hs))] at e96
  (repeat refine And.intro rfl ?_)
  refine hJ _ _ _ _ _ _ _ _ _ _ ?_
  clear hJ
  rw [Int.toNat_natCast]
  refine need (by simp; omega) ?_
  have hob : SeesB w5 (b.sub 1 20 (tcHd l) (tcHd l)) (tob l) := (h.old v5).subB (lo := 20) (hi := tcHd l) (mx := tcHd l) (by omega) (by omega) (Nat.le_refl _)
  refine c33 (hg.l.old v5) hob (tob_byt hb) (by simp [Sl.sub]) (by simp [tob]; omega) (fun w6 u6 hn => ⟨_, _, rfl, kp u6, ?_⟩) (fun ps s w6 hps u6 hs6 ho6 => ⟨_, _, rfl, kp u6, ?_⟩)
  · refine brt (by simp) fun w7 u7 => ke _ _ ((v5.then u6).step0 u7 fr) (by rw [e96, if_pos hn]) (by decide)
  have he : tcErr e l = 0 := by rw [e96, if_neg (by rw [hps]; simp)]
  have eps : tps l = ps := by unfold tps; rw [hps]; rfl
  have w46 : Upd [] [] w4 w6 := u5.then u6
  have bb13 := hb.bt 13
  refine brf (by simp) (nd 0 (by omega) ⟨W16 l 0, at_ w46 0 (by omega), nd 1 (by omega) ⟨W16 l 2, at_ w46 1 (by omega), nd 2 (by omega) ⟨W32 l 4, at_ w46 2 (by omega), nd 3 (by omega) ⟨W32 l 8, at_ w46 3 (by omega), nd 6 (by omega) ⟨bt l 13, at_ w46 6 (by omega), nd 7 (by omega) ⟨W16 l 14, at_ w46 7 (by omega), nd 9 (by omega) ⟨W16 l 18, at_ w46 9 (by omega), ?_⟩⟩⟩⟩⟩⟩⟩)
  refine need (by simp; omega) fun w7 u7 => ?_
  have y5 := v5.size
  have n3' : b3 < w5.heap.size := by have := u2.size; have := u3.size; have := u4.size; have := u5.size; omega
  have q : ∀ x ∈ s.blk, x ∉ [b3] := fun x hx hm => by have := (ho6.blk x hx).1; simp at hm; omega
  have := k s w7 ((v5.then u6).step0 u7 fr) (by unfold osT; rw [if_pos he, eps]; exact hs6.upd u7 q) ((ho6.upd u7 q).mono y5)
  have e1 : tcOf e l = tcRaw l := by unfold tcOf; rw [if_pos he]
  have e2 : dT e b l = b.sub 1 (tcHd l) l.length l.length := by unfold dT; rw [if_pos he]
  rw [e1, e2, he] at this
  rw [Int.toNat_natCast]
  exact this
end
end Go.Vc.S9
end

section
open Go Go.Vc Go.Proofs
set_option linter.unusedVariables false
set_option linter.unusedSimpArgs false
set_option autoImplicit false
namespace Go.Vc.S9
section
variable {e : Ends} {w : World} {R : SV → World → Prop} {t : TcV} {so d : Sl} {os : List (Int × Sl)}
theorem tcPE_fit (hf : e.fit) : tcPE e t = tcChk t := by unfold tcPE; rw [if_neg (Classical.not_not.2 hf)]
theorem tcPE_no (hf : ¬ e.fit) : tcPE e t = 20 := by unfold tcPE; rw [if_pos hf]
theorem tc_set (t : TcV) (c : Int) : ((tcHead t 0 ++ t.data).set 16 (c / 256 % 256)).set 17 (c % 256) = tcHead t c ++ t.data := rfl
theorem tc_parts (t : TcV) : (tcHead t 0).take 20 ++ putO t.opts = tcHead t 0 := rfl
set_option maxRecDepth 10000 in
theorem c26 (hg : Tabs w) (o : e.Ok) (f : TFit t) (hO : Opts w so t.opts os) (hl : t.opts.length < 9223372036854775807) (hod : ∀ o ∈ t.opts, o.data.length ≤ 140737488355328) (hd : SeesB w d t.data) (hdl' : t.data.length ≤ 140737488355328)
    (k : ∀ r w1, Upd [] [] w w1 → SeesB w1 r (tcSerL e t) → Own w.heap.size 1 w1 r → R (.tuple [.slice r, .int .i64 (tcPE e t)]) w1) : Ret Tryd.prog 26 [adr e.sv e.sa, adr e.dv e.da, tcSV t so d] w R := by
  refine f26_of _ _ _ _ _ _ _ _ _ _ _ _ _ _ _ ?_
  unfold vc26
  have hdl := hd.len
  intro b b1 b2 w1 u1
  have n0 := u1.new (b := b) (by simp)
  have n1 := u1.new (b := b1) (by simp)
  have n2 := u1.new (b := b2) (by simp)
  refine c70 fun w2 u2 => ⟨_, rfl, kp u2, ?_⟩
  have v2 := u1.then u2
  have kn : ∀ x w3, Upd [] [] w w3 → tcPE e t = x → x ≠ 0 → R (.tuple [.slice ⟨none, 0, 0⟩, .int .i64 x]) w3 := fun x w3 u3 he hn => by
    have := k ⟨none, 0, 0⟩ w3 u3 (by unfold tcSerL; rw [if_neg (by omega)]; exact Sees.nil _ _ _ _) (Own.none _ _ _)
    rwa [he] at this
  intro J hJ
  by_cases hf : e.fit
  rotate_left
  · rw [if_neg hf]
    refine brf (by decide) ?_
    (repeat refine And.intro rfl ?_)
    exact hJ _ _ (brt (by decide) (kn _ _ v2 (tcPE_no hf) (by decide)))
  rw [if_pos hf]
  refine brt rfl (c29 (hg.old v2) (hO.old v2) hl hod hdl (by omega) fun w3 u3 => ⟨_, rfl, kp u3, ?_⟩)
  (repeat refine And.intro rfl ?_)
  have v3 := v2.then u3
  refine hJ _ _ ?_
  clear hJ
  refine bre' (fun hne => kn _ _ v3 (tcPE_fit hf) hne) (fun hc => ?_)
  have hpe : tcPE e t = 0 := by rw [tcPE_fit hf]; exact hc
  obtain ⟨h1, h2, h3, h4, h5, h6, h7, h8, h9⟩ := tcChk_ok hc
  have hr8 := thL_r h8
  have hpl := putO_len h8.1
  have k' : ∀ r w1, Upd [] [] w w1 → SeesB w1 r (tcSer e t) → Own w.heap.size 1 w1 r → R (.tuple [.slice r, .int .i64 0]) w1 := fun r w1 u' hr ho => by
    have := k r w1 u' (by unfold tcSerL; rw [if_pos hpe]; exact hr) ho
    rwa [hpe] at this
  refine c39 (hg.l.old v3) (hO.old v3) hl hod fun p w4 u4 hp4 _ => ⟨_, _, rfl, kp u4, ?_⟩
  unfold putL9 at hp4
  rw [if_pos h8] at hp4
  have hpl4 := hp4.len
  have v4 := v3.then u4
  refine ⟨fun i => widthsT.getD i 0, fun i hi => ?_, ?_⟩
  · have := intAt (hg.t.old v4) i hi
    rw [show widT.at 1 i = (Addr.add ⟨1, 0, none⟩ (0 + i)) by simp [Sl.at, widT]] at this
    rw [this]
    simp only [List.getD_eq_getElem?_getD, List.getElem?_eq_getElem (show i < widthsT.length from hi), Option.getD_some]
    rfl
  intro b4 w5 u5 hr5 _
  have v5 := v4.then u5
  have y1 := u1.size; have y2 := u2.size; have y3 := u3.size; have y4 := u4.size; have y5 := u5.size
  have hws5 : Sees cI64 w5 (Sl.sub ⟨some ⟨b4, 0, none⟩, 10, 10⟩ 1 0 10 10) widthsT := by
    have : Sees cI64 w5 ⟨some ⟨b4, 0, none⟩, 10, 10⟩ widthsT := sees_row hr5 _ rfl rfl
    rw [sub_lit (by omega)]; exact this
  have hp5 := hp4.old u5
  have e4 : wr .i64 (Int.tdiv (wr .i64 (20 + (p.len : Int))) 4) = (thL t : Int) / 4 := by
    rw [wr_i64 (x := 20 + (p.len : Int)) (by omega) (by omega), tdiv_pos (by omega), wr_i64 (by omega) (by omega)]; unfold thL; omega
  rw [e4]
  refine ⟨⟨Upd.refl _, fun b5 w6 u6 hr6 => ?_⟩, fun b5 w6 u6 hr6 => ⟨u6.forget, ?_⟩⟩
  all_goals
    have v6 := v5.then u6
    have y6 := u6.size
    have hvs : Sees cI64 w6 ⟨some ⟨b5, 0, none⟩, 10, 10⟩ (packT t) := sees_row hr6 _ rfl rfl
    refine c71 (hws5.old u6) hvs widT_ok rfl (fun i hi => packT_r hc i hi hi) fun s1 w7 u7 hs7 ho7 => ⟨_, _, rfl, kp u7, ?_⟩
    have e12 : packB widthsT (packT t) (wsum widthsT / 8) = (tcHead t 0).take 20 := packT_eq hc
    rw [e12] at hs7
    have v7 := v6.then u7
    have y7 := u7.size
    have nb : ∀ {s : Sl} {w' : World}, Own w6.heap.size 1 w' s → ∀ x ∈ s.blk, x ∉ [b, b1, b2] := fun o' x hx hm => by have := (o'.blk x hx).1; simp at hm; omega
    have l20 : ((tcHead t 0).take 20).length = 20 := by rw [List.length_take, tcHead_len]; omega
    refine append_own (c := cU8) hs7 ho7 ((hp5.old u6).old u7) u7.size (nb ho7) (by decide) (by rw [l20]; omega) fun r w8 hr8 ho8 u8 _ => ?_
    rw [tc_parts] at hr8
    have v8 := v7.step0 u8 (fun x hx => by have := (ho7.blk x hx).1; omega)
    have y8 := u8.size
    refine append_own (c := cU8) hr8 ho8 (hd.old v8) (by omega) (nb ho8) (by decide) (by rw [tcHead_len]; omega) fun r9 w9 hr9 ho9 u9 _ => ?_
    have v9 := v8.step0 u9 (fun x hx => by have := (ho8.blk x hx).1; omega)
    have y9 := u9.size
    have hrl := hr9.len
    rw [List.length_append, tcHead_len] at hrl
    refine c22 fun s w10 u10 hs10 _ => ⟨_, _, rfl, kp u10, ?_⟩
    have v10 := v9.then u10
    have hpf := psE_fit hf (p := 6) (n := (r9.len : Int)) (by omega) (by omega)
    rw [hpf.2] at hs10
    intro b9 w11 u11 hr11
    have v11 := v10.then u11
    have hr911 := (hr9.old u10).old u11
    have hP := rowP (n := 2) (cap := 2) hr11 (ss := [s, r9]) rfl rfl (ls := [psB e 6 (r9.len : Int), tcHead t 0 ++ t.data]) ⟨hs10.old u11, hr911, trivial⟩
    have hpl := psB_len e 6 (r9.len : Int)
    have hbH : Byt (tcHead t 0 ++ t.data) := (tcHead_byt hc f 0).app f.data
    refine c72 hP (by simp; exact ⟨psB_byt o, hbH⟩) (by simp) (by simp [tcHead_len]; omega) ⟨_, rfl, kp (Upd.refl _), ?_⟩
    have ec : 65535 - sumOf ([psB e 6 (r9.len : Int), tcHead t 0 ++ t.data] : List (List Int)).flatten = tcCk e t := by
      unfold tcCk psum
      rw [hr9.len]
      simp
    rw [ec]
    have hk0 := tcCk_r o hc f
    have ho911 := (ho9.old u10).old u11
    have w1' : wr .u8 (gshr .i64 (tcCk e t) 8) = tcCk e t / 256 % 256 := by rw [gshr8, wr_u8]
    rw [w1', wr_u8]
    refine two_set hr911 ho911 (nb ho911) (a := 16) (by rw [List.length_append, tcHead_len]; omega) (l' := tcSer e t) (by unfold tcSer; exact tc_set t (tcCk e t)) fun w12 u12 hs12 ho12 => ?_
    exact k' r9 w12 (v11.step0 u12 (fun x hx => by have := (ho911.blk x hx).1; omega)) hs12 (ho12.mono (by omega))
set_option maxRecDepth 10000 in
theorem c55 (o : e.Ok) (f : TFit t) (hO : Opts w so t.opts os) (hl : t.opts.length ≤ 1099511627776) (hod : ∀ o ∈ t.opts, o.data.length ≤ 140737488355328) (hd : SeesB w d t.data) (hdl' : t.data.length ≤ 140737488355328)
    (k : ∀ r w1, Upd [] [] w w1 → SeesB w1 r (tcSerL e t) → Own w.heap.size 1 w1 r → R (.tuple [.slice r, .int .i64 (tcPE e t)]) w1) : Ret Tryd.prog 55 [adr e.sv e.sa, adr e.dv e.da, tcSV t so d] w R := by
  refine f55_of _ _ _ _ _ _ _ _ _ _ _ _ _ _ _ ?_
  unfold vc55
  have hdl := hd.len
  intro b b1 b2 w1 u1
  have n0 := u1.new (b := b) (by simp)
  have n1 := u1.new (b := b1) (by simp)
  have n2 := u1.new (b := b2) (by simp)
  refine c83 fun w2 u2 => ⟨_, rfl, kp u2, ?_⟩
  have v2 := u1.then u2
  have kn : ∀ x w3, Upd [] [] w w3 → tcPE e t = x → x ≠ 0 → R (.tuple [.slice ⟨none, 0, 0⟩, .int .i64 x]) w3 := fun x w3 u3 he hn => by
    have := k ⟨none, 0, 0⟩ w3 u3 (by unfold tcSerL; rw [if_neg (by omega)]; exact Sees.nil _ _ _ _) (Own.none _ _ _)
    rwa [he] at this
  refine brn (fun hf => kn _ _ v2 (tcPE_no (of_decide_eq_false hf)) (by decide)) (fun hf' => ?_)
  have hf := of_decide_eq_true hf'
  refine c60 (hO.old v2) hl hod hdl hdl' fun w3 u3 => ⟨_, rfl, kp u3, ?_⟩
  have v3 := v2.then u3
  refine bre' (fun hne => kn _ _ v3 (tcPE_fit hf) hne) (fun hc => ?_)
  have hpe : tcPE e t = 0 := by rw [tcPE_fit hf]; exact hc
  obtain ⟨h1, h2, h3, h4, h5, h6, h7, h8, h9⟩ := tcChk_ok hc
  have hr8 := thL_r h8
  have hpl := putO_len h8.1
  have k' : ∀ r w1, Upd [] [] w w1 → SeesB w1 r (tcSer e t) → Own w.heap.size 1 w1 r → R (.tuple [.slice r, .int .i64 0]) w1 := fun r w1 u' hr ho => by
    have := k r w1 u' (by unfold tcSerL; rw [if_pos hpe]; exact hr) ho
    rwa [hpe] at this
  refine c56 (hO.old v3) hl hod fun p wp up hp4 _ => ⟨_, _, rfl, kp up, ?_⟩
  unfold putL9 at hp4
  rw [if_pos h8] at hp4
  have hpl4 := hp4.len
  have vp := v3.then up
  have y1 := u1.size; have y2 := u2.size; have y3 := u3.size; have yp := up.size
  have e16 : wr .i64 (wr .i64 (Int.tdiv (wr .i64 (20 + (p.len : Int))) 4) * 16) = (thL t : Int) / 4 * 16 := by
    rw [wr_i64 (x := 20 + (p.len : Int)) (by omega) (by omega), tdiv_pos (by omega), wr_i64 (x := (20 + (p.len : Int)) / 4) (by omega) (by omega), wr_i64 (by omega) (by omega)]; unfold thL; omega
  rw [e16]
  have nb : ∀ {s : Sl} {w' : World}, Own wp.heap.size 1 w' s → ∀ x ∈ s.blk, x ∉ [b, b1, b2] := fun o' x hx hm => by have := (o'.blk x hx).1; simp at hm; omega
  have kk : ∀ {s : Sl} {w' w'' : World}, Own wp.heap.size 1 w' s → wp.heap.size ≤ w'.heap.size → Upd s.blk [] w' w'' → Keeps [b, b1, b2] w' w'' := fun o' hz u' => kpm u' (by simp; omega) (fun x hx hm => nb o' x hm hx)
  refine c89 (n := 2) (Sees.nil _ _ _ _) (Own.none wp.heap.size _ _) (Nat.le_refl _) (by simp) (by omega) (by omega) (by omega) fun s4 w4 u4 hs4 ho4 => ⟨_, rfl, kk (Own.none _ _ _) (Nat.le_refl _) u4, ?_⟩
  have t4 : Upd [] [] wp w4 := u4
  refine c89 (n := 2) hs4 ho4 t4.size (by simp [beL_len]) (by omega) (by omega) (by omega) fun s5 w5 u5 hs5 ho5 => ⟨_, rfl, kk ho4 t4.size u5, ?_⟩
  have t5 := t4.step0 u5 (fun x hx => (ho4.blk x hx).1)
  refine c89 (n := 4) hs5 ho5 t5.size (by simp [beL_len]) (by omega) (by omega) (by omega) fun s6 w6 u6 hs6 ho6 => ⟨_, rfl, kk ho5 t5.size u6, ?_⟩
  have t6 := t5.step0 u6 (fun x hx => (ho5.blk x hx).1)
  refine c89 (n := 4) hs6 ho6 t6.size (by simp [beL_len]) (by omega) (by omega) (by omega) fun s7 w7 u7 hs7 ho7 => ⟨_, rfl, kk ho6 t6.size u7, ?_⟩
  have t7 := t6.step0 u7 (fun x hx => (ho6.blk x hx).1)
  refine c89 (n := 1) hs7 ho7 t7.size (by simp [beL_len]) (by omega) (by omega) (by omega) fun s8 w8 u8 hs8 ho8 => ⟨_, rfl, kk ho7 t7.size u8, ?_⟩
  have t8 := t7.step0 u8 (fun x hx => (ho7.blk x hx).1)
  refine c89 (n := 1) hs8 ho8 t8.size (by simp [beL_len]) (by omega) (by omega) (by omega) fun s9 w9 u9 hs9 ho9 => ⟨_, rfl, kk ho8 t8.size u9, ?_⟩
  have t9 := t8.step0 u9 (fun x hx => (ho8.blk x hx).1)
  refine c89 (n := 2) hs9 ho9 t9.size (by simp [beL_len]) (by omega) (by omega) (by omega) fun s10 w10 u10 hs10 ho10 => ⟨_, rfl, kk ho9 t9.size u10, ?_⟩
  have t10 := t9.step0 u10 (fun x hx => (ho9.blk x hx).1)
  refine c89 (n := 2) hs10 ho10 t10.size (by simp [beL_len]) (by omega) (by omega) (by omega) fun s11 w11 u11 hs11 ho11 => ⟨_, rfl, kk ho10 t10.size u11, ?_⟩
  have t11 := t10.step0 u11 (fun x hx => (ho10.blk x hx).1)
  refine c89 (n := 2) hs11 ho11 t11.size (by simp [beL_len]) (by omega) (by omega) (by omega) fun s12 w12 u12 hs12 ho12 => ⟨_, rfl, kk ho11 t11.size u12, ?_⟩
  have t12 := t11.step0 u12 (fun x hx => (ho11.blk x hx).1)
  have e20 : [] ++ beL t.sp 2 ++ beL t.dp 2 ++ beL t.seq 4 ++ beL t.ack 4 ++ beL ((thL t : Int) / 4 * 16) 1 ++ beL t.fl 1 ++ beL t.win 2 ++ beL 0 2 ++ beL t.urg 2 = (tcHead t 0).take 20 := by
    rw [beL2, beL2, beL4, beL4, beL1, beL1, beL2, beL2, beL2]
    have e1 : (thL t : Int) / 4 * 16 % 256 = (thL t : Int) / 4 * 16 := by omega
    have e2 : t.fl % 256 = t.fl := by omega
    rw [e1, e2]; rfl
  rw [e20] at hs12
  have v12 := vp.then t12
  have l20 : ((tcHead t 0).take 20).length = 20 := by rw [List.length_take, tcHead_len]; omega
  refine append_own (c := cU8) hs12 ho12 (hp4.old t12) t12.size (nb ho12) (by decide) (by rw [l20]; omega) fun r w13 hr13 ho13 u13 _ => ?_
  rw [tc_parts] at hr13
  have t13 := t12.step0 u13 (fun x hx => (ho12.blk x hx).1)
  have v13 := vp.then t13
  refine append_own (c := cU8) hr13 ho13 (hd.old v13) t13.size (nb ho13) (by decide) (by rw [tcHead_len]; omega) fun r9 w14 hr14 ho14 u14 _ => ?_
  have t14 := t13.step0 u14 (fun x hx => (ho13.blk x hx).1)
  have v14 := vp.then t14
  have hrl := hr14.len
  rw [List.length_append, tcHead_len] at hrl
  refine c90 hf o (by omega) hr14 ((tcHead_byt hc f 0).app f.data) (by rw [List.length_append, tcHead_len]; omega) fun w15 u15 => ⟨_, rfl, kp u15, ?_⟩
  have ec : 65535 - psum e 6 (tcHead t 0 ++ t.data) = tcCk e t := rfl
  rw [ec]
  have hk0 := tcCk_r o hc f
  have hr15 := hr14.old u15
  have ho15 := ho14.old u15
  have v15 := v14.then u15
  rw [tdiv_pos hk0.1, wr_i64 (x := tcCk e t / 256) (by omega) (by omega), tmod_pos hk0.1, wr_u8, wr_u8, show tcCk e t % 256 % 256 = tcCk e t % 256 by omega]
  refine two_set hr15 ho15 (nb ho15) (a := 16) (by rw [List.length_append, tcHead_len]; omega) (l' := tcSer e t) (by unfold tcSer; exact tc_set t (tcCk e t)) fun w16 u16 hs16 ho16 => ?_
  exact k' r9 w16 (v15.step0 u16 (fun x hx => by have := (ho15.blk x hx).1; omega)) hs16 (ho16.mono (by omega))
/-- the same segments are told the same -/
theorem c28 {t' : TcV} {sa da sb db : Sl} {oa ob : List (Int × Sl)} (hOa : Opts w sa t.opts oa) (hOb : Opts w sb t'.opts ob) (hoa : ∀ o ∈ t.opts, Byt o.data) (hob : ∀ o ∈ t'.opts, Byt o.data) (hl : t.opts.length < 9223372036854775807) (hDa : SeesB w da t.data) (hDb : SeesB w db t'.data) (hda : Byt t.data) (hdb : Byt t'.data)
    (k : ∀ w1 x, Upd [] [] w w1 → (x = true ↔ t = t') → R (.bool x) w1) : Ret Tryd.prog 28 [tcSV t sa da, tcSV t' sb db] w R := by
  refine f28_of _ _ _ _ _ _ _ _ _ _ _ _ _ _ _ _ _ _ _ _ ?_
  unfold vc28
  intro b b9 J hJ
  have bad : t ≠ t' → ∀ w1, Upd [] [b9, b] w w1 → R (.bool false) w1 := fun hne w1 u1 => k w1 false u1.forget ⟨fun x => (by cases x), fun x => absurd x hne⟩
  refine bre' (fun h => bad (fun x => h (by rw [x]))) (fun h1 => ?_)
  refine bre' (fun h => bad (fun x => h (by rw [x]))) (fun h2 => ?_)
  refine bre' (fun h => bad (fun x => h (by rw [x]))) (fun h3 => ?_)
  refine bre' (fun h => bad (fun x => h (by rw [x]))) (fun h4 => ?_)
  refine bre' (fun h => bad (fun x => h (by rw [x]))) (fun h5 => ?_)
  refine bre' (fun h => bad (fun x => h (by rw [x]))) (fun h6 => ?_)
  refine bre' (fun h => bad (fun x => h (by rw [x]))) (fun h7 w1 u1 => ?_)
  (repeat refine And.intro rfl ?_)
  refine hJ _ ?_
  refine c47 (hOa.old u1) (hOb.old u1) hoa hob hl fun w2 u2 => ⟨_, rfl, kp u2, ?_⟩
  have v2 := u1.then u2
  refine brb (fun h8 => ?_) (fun h8 => k _ _ v2 ⟨fun x => (by cases x), fun x => absurd (by rw [x]) (of_decide_eq_false h8)⟩)
  refine c30 ((hDa.old u1).old u2) ((hDb.old u1).old u2) hda hdb ⟨_, rfl, kp (Upd.refl _), ?_⟩
  refine k _ _ v2 ?_
  have h8' := of_decide_eq_true h8
  rw [decide_eq_true_iff]
  constructor
  · intro h9
    cases t; cases t'
    simp_all
  · intro h9; rw [h9]
theorem c28T {sa da sb db : Sl} {oa ob : List (Int × Sl)} (hOa : Opts w sa t.opts oa) (hOb : Opts w sb t.opts ob) (hoa : ∀ o ∈ t.opts, Byt o.data) (hl : t.opts.length < 9223372036854775807) (hDa : SeesB w da t.data) (hDb : SeesB w db t.data) (hda : Byt t.data)
    (k : ∀ w1, Upd [] [] w w1 → R (.bool true) w1) : Ret Tryd.prog 28 [tcSV t sa da, tcSV t sb db] w R :=
  c28 (t' := t) hOa hOb hoa hoa hl hDa hDb hda hda fun w1 x u hx => by rw [hx.2 rfl]; exact k w1 u
theorem c38 (hO : Opts w so t.opts os) (hl : t.opts.length ≤ 4398046511104) (hod : ∀ o ∈ t.opts, o.data.length ≤ 140737488355328) (hD : SeesB w d t.data) (hdl : t.data.length ≤ 140737488355328)
    (k : ∀ s os d w1, Upd [] [] w w1 → Opts w1 s t.opts os → Own w.heap.size 2 w1 s → (∀ x ∈ os, Own w.heap.size 1 w1 x.2) → os.Pairwise (fun x y => Apt x.2 y.2) → (∀ x ∈ os, ∀ b ∈ x.2.blk, b ∉ s.blk) → SeesB w1 d t.data → Own w.heap.size 1 w1 d → Apt d s → (∀ x ∈ os, Apt d x.2) → R (tcSV t s d) w1) : Ret Tryd.prog 38 [tcSV t so d] w R := by
  refine f38_of _ _ _ _ _ _ _ _ _ _ _ ?_
  unfold vc38
  intro b b1 w1 u1
  have n1 := u1.new (b := b) (by simp)
  have n2 := u1.new (b := b1) (by simp)
  have y1 := u1.size
  refine c80 (hO.old u1) hl hod fun s os w2 u2 hs ho hos hpw hof => ⟨_, rfl, kp u2, fun w3 u3 => ?_⟩
  have v3 := (u1.then u2).step0 u3 (by simp; omega)
  have y2 := u2.size
  have y3 := u3.size
  have q : ∀ x ∈ s.blk, x ∉ [b] := fun x hx hm => by have := (ho.blk x hx).1; simp at hm; omega
  have q2 : ∀ y ∈ os, ∀ x ∈ y.2.blk, x ∉ [b] := fun y hy x hx hm => by have := ((hos y hy).blk x hx).1; simp at hm; omega
  refine c40 (hD.old v3) hdl fun d w4 u4 hd hod' => ⟨_, rfl, kp u4, fun w5 u5 => ?_⟩
  have q5 : ∀ x ∈ s.blk, x ∉ [b1, b] := fun x hx hm => by have := (ho.blk x hx).1; simp at hm; omega
  have q52 : ∀ y ∈ os, ∀ x ∈ y.2.blk, x ∉ [b1, b] := fun y hy x hx hm => by have := ((hos y hy).blk x hx).1; simp at hm; omega
  have q53 : ∀ x ∈ d.blk, x ∉ [b1, b] := fun x hx hm => by have := (hod'.blk x hx).1; simp at hm; omega
  refine k s os d w5 ((v3.then u4).step0 u5 (by simp; omega)) (((hs.upd u3 q q2).old u4).upd u5 q5 q52) ((((ho.upd u3 q).old u4).upd u5 q5).mono y1) (fun x hx => ((((hos x hx).upd u3 (q2 x hx)).old u4).upd u5 (q52 x hx)).mono y1) hpw hof (hd.upd u5 q53) ((hod'.upd u5 q53).mono v3.size) (fun x hx hm => ?_) (fun y hy x hx hm => ?_)
  · have := (hod'.blk x hx).1; have := (ho.blk x hm).2; omega
  · have := (hod'.blk x hx).1; have := ((hos y hy).blk x hm).2; omega
end
end Go.Vc.S9
end

section
open Go Go.Vc Go.Proofs
set_option linter.unusedVariables false
set_option linter.unusedSimpArgs false
set_option autoImplicit false
namespace Go.Vc.S9
/-- what Mss answers -/
def mssI (l : List Opt) : Int := (mssO l).getD 0
def mssB (l : List Opt) : Bool := (mssO l).isSome
theorem mssO_skip : ∀ (l : List Opt) (q : Nat), (∀ o ∈ l.take q, ¬ tells o) → mssO l = mssO (l.drop q)
  | l, 0, _ => by simp
  | [], q + 1, _ => rfl
  | o :: r, q + 1, h => by
    have h0 : ¬ tells o := h o (by simp)
    rw [List.drop_succ_cons, ← mssO_skip r q fun x hx => h x (by simp [hx])]
    unfold mssO
    rw [if_neg h0]
    cases r <;> rfl
theorem mssO_at {l : List Opt} {q : Nat} (h : q < l.length) (hn : ∀ o ∈ l.take q, ¬ tells o) (ht : tells l[q]) : mssO l = some (W16 l[q].data 0) := by
  rw [mssO_skip l q hn, List.drop_eq_getElem_cons h]
  unfold mssO
  rw [if_pos ht]
theorem mssO_none {l : List Opt} (hn : ∀ o ∈ l, ¬ tells o) : mssO l = none := by
  rw [mssO_skip l l.length (by simpa using hn)]
  simp [mssO]
section
variable {w : World} {R : SV → World → Prop} {t : TcV} {so d : Sl} {os : List (Int × Sl)}
theorem c92 {o : Opt} {s : Sl} (hs : s.len = o.data.length) (k : ∀ w1, Upd [] [] w w1 → R (.bool (decide (tells o))) w1) : Ret Tryd.prog 92 [.struct [.int .i64 o.kind, .slice s]] w R := by
  refine f92_of _ _ _ _ ?_
  unfold vc92
  intro b
  refine bre (fun h w1 u => ?_) (fun h w1 u => ?_)
  · have := k w1 u.forget
    have e : decide (tells o) = ((s.len : Int) == 2) := by
      rw [Bool.eq_iff_iff, decide_eq_true_iff, beq_iff_eq]
      unfold tells
      constructor
      · intro x; omega
      · intro x; exact ⟨h, by omega⟩
    rwa [e] at this
  · have := k w1 u.forget
    rwa [decide_eq_false (fun x : tells o => h x.1)] at this
theorem c79 {o : Opt} {s : Sl} (hs : SeesB w s o.data) (hb : Byt o.data) (k : ∀ w1, Upd [] [] w w1 → R (if tells o then .tuple [.int .i64 (W16 o.data 0), .bool true] else .tuple [.int .i64 0, .bool false]) w1) : Ret Tryd.prog 79 [.struct [.int .i64 o.kind, .slice s]] w R := by
  refine f79_of _ _ _ _ ?_
  unfold vc79
  have hl := hs.len
  intro b J hJ
  refine bre' (fun h w1 u => ?_) (fun h => bre' (fun h2 w1 u => ?_) (fun h2 w1 u => ?_))
  · have := k w1 u.forget
    rwa [if_neg (fun x => h x.1)] at this
  · have := k w1 u.forget
    rwa [if_neg (fun x => h2 (by have := x.2; omega))] at this
  · have ht : tells o := ⟨h, by omega⟩
    (repeat refine And.intro rfl ?_)
    refine hJ _ ?_
    have hs1 := hs.old u
    have b0 := hb.bt ((0 : Nat) : Int)
    have b1 := hb.bt ((1 : Nat) : Int)
    refine needCB hs1 0 (by omega) ⟨_, byteC hs1 0 (by omega), needCB hs1 1 (by omega) ⟨_, byteC hs1 1 (by omega), fun w2 u2 => ?_⟩⟩
    have := k w2 (u.forget.then u2)
    rw [if_pos ht] at this
    rw [wr_i64 (x := bt o.data ((0 : Nat) : Int)) (by omega) (by omega), wr_i64 (x := bt o.data ((1 : Nat) : Int)) (by omega) (by omega), gshl8, wr_i64 (by omega) (by omega), ior_add 8 (by omega) (by omega) (by omega) (by omega) (by omega) (by omega)]
    exact this
theorem c36 (hO : Opts w so t.opts os) (hb : ∀ o ∈ t.opts, Byt o.data) (hl : t.opts.length < 9223372036854775807) (k : ∀ w1, Upd [] [] w w1 → R (.tuple [.int .i64 (mssI t.opts), .bool (mssB t.opts)]) w1) : Ret Tryd.prog 36 [tcSV t so d] w R := by
  refine f36_of _ _ _ _ _ _ _ _ _ _ _ ?_
  unfold vc36
  intro b
  have hsl := hO.slen
  refine ⟨fun i w1 => Upd [] [] w w1 ∧ ∃ q : Nat, i = q ∧ q ≤ t.opts.length ∧ ∀ o ∈ t.opts.take q, ¬ tells o, fun i _ => (t.opts.length - i).toNat, fun w1 u => ⟨u.forget, 0, rfl, by omega, by simp⟩, ?_⟩
  rintro i w1 ⟨u, q, rfl, hq, hn⟩
  have h1 := hO.old u
  refine brd (fun hlt => ?_) (fun hge => ?_)
  · have hq2 : q < t.opts.length := by omega
    obtain ⟨g1, g2, g3, g4⟩ := h1.get q hq2
    refine needO h1 (by omega) (by omega) ⟨_, (by rw [Int.toNat_natCast]; exact g1), _, (by rw [Int.toNat_natCast]; exact g2), ?_⟩
    intro b1 w2 u2
    have v2 := u.then u2
    refine c79 (o := t.opts[q]) (g3.old u2) (hb _ (List.getElem_mem hq2)) fun w3 u3 => ?_
    have v3 := v2.then u3
    by_cases ht : tells t.opts[q]
    · rw [if_pos ht]
      refine ⟨_, _, rfl, kp u3, ?_⟩
      (repeat refine And.intro rfl ?_)
      refine brt rfl ?_
      have := k w3 v3
      unfold mssI mssB at this
      rw [mssO_at hq2 hn ht] at this
      exact this
    · rw [if_neg ht]
      refine ⟨_, _, rfl, kp u3, ?_⟩
      refine brf rfl ?_
      (repeat refine And.intro rfl ?_)
      refine ⟨⟨v3, q + 1, wr_succ (by omega), by omega, fun o ho => ?_⟩, by rw [wr_succ (q := q) (by omega)]; (try dsimp only); omega⟩
      rw [take_snoc hq2] at ho
      rcases List.mem_append.1 ho with ho | ho
      · exact hn o ho
      · rw [List.mem_singleton] at ho; subst ho; exact ht
  · have hqe : q = t.opts.length := by omega
    subst hqe
    rw [List.take_length] at hn
    have := k w1 u
    unfold mssI mssB at this
    rw [mssO_none hn] at this
    exact this
theorem c58 (hO : Opts w so t.opts os) (hb : ∀ o ∈ t.opts, Byt o.data) (hl : t.opts.length < 9223372036854775807) (k : ∀ w1, Upd [] [] w w1 → R (.tuple [.int .i64 (mssI t.opts), .bool (mssB t.opts)]) w1) : Ret Tryd.prog 58 [tcSV t so d] w R := by
  refine f58_of _ _ _ _ _ _ _ _ _ _ _ ?_
  unfold vc58
  intro b
  have hsl := hO.slen
  refine ⟨fun i w1 => Upd [] [] w w1 ∧ ∃ q : Nat, i = q ∧ q ≤ t.opts.length ∧ ∀ o ∈ t.opts.take q, ¬ tells o, fun i _ => (t.opts.length - i).toNat, fun w1 u => ⟨u.forget, 0, rfl, by omega, by simp⟩, ?_⟩
  rintro i w1 ⟨u, q, rfl, hq, hn⟩
  have h1 := hO.old u
  refine brd (fun hlt => ?_) (fun hge => ?_)
  · have hq2 : q < t.opts.length := by omega
    obtain ⟨g1, g2, g3, g4⟩ := h1.get q hq2
    refine needO h1 (by omega) (by omega) ⟨_, (by rw [Int.toNat_natCast]; exact g1), _, (by rw [Int.toNat_natCast]; exact g2), ?_⟩
    refine c92 (o := t.opts[q]) g3.len fun w3 u3 => ⟨_, rfl, kp u3, ?_⟩
    have v3 := u.then u3
    obtain ⟨g1', g2', g3', _⟩ := (hO.old v3).get q hq2
    refine brb (fun ht' => ?_) (fun ht' => ?_)
    · have ht := of_decide_eq_true ht'
      have hbq := hb _ (List.getElem_mem hq2)
      refine needO (hO.old v3) (by omega) (by omega) ⟨_, (by rw [Int.toNat_natCast]; exact g2'), ?_⟩
      refine c84 (n := 2) (i := 0) g3' hbq (by have := ht.2; omega) (by have := ht.2; omega) (by omega) ⟨_, rfl, kp (Upd.refl _), ?_⟩
      have := k w3 v3
      unfold mssI mssB at this
      rw [mssO_at hq2 hn ht] at this
      have e := bitsN_two hbq 0
      rw [show 8 * 2 = 16 from rfl, e]
      exact this
    · have ht := of_decide_eq_false ht'
      (repeat refine And.intro rfl ?_)
      refine ⟨⟨v3, q + 1, wr_succ (by omega), by omega, fun o ho => ?_⟩, by rw [wr_succ (q := q) (by omega)]; (try dsimp only); omega⟩
      rw [take_snoc hq2] at ho
      rcases List.mem_append.1 ho with ho | ho
      · exact hn o ho
      · rw [List.mem_singleton] at ho; subst ho; exact ht
  · have hqe : q = t.opts.length := by omega
    subst hqe
    rw [List.take_length] at hn
    have := k w1 u
    unfold mssI mssB at this
    rw [mssO_none hn] at this
    exact this
theorem clampO_byt {y : Bool} {m : Int} {o : Opt} (h : Byt o.data) : Byt (clampO y m o).data := by
  unfold clampO
  split
  · intro x hx; simp at hx; omega
  · exact h
theorem clampO_len {y : Bool} {m : Int} {o : Opt} : (clampO y m o).data.length = o.data.length ∧ (clampO y m o).kind = o.kind := by
  unfold clampO
  split
  · rename_i h; exact ⟨by have := h.1.2; simp [this], rfl⟩
  · exact ⟨rfl, rfl⟩
set_option maxRecDepth 10000 in
theorem c35 {most : Int} (hO : Opts w so t.opts os) (hb : ∀ o ∈ t.opts, Byt o.data) (hl : t.opts.length ≤ 4398046511104) (hd : ∀ o ∈ t.opts, o.data.length ≤ 140737488355328)
    (k : ∀ s os w1, Upd [] [] w w1 → Opts w1 s (clampT t most).opts os → Own w.heap.size 2 w1 s → (∀ x ∈ os, Own w.heap.size 1 w1 x.2) → os.Pairwise (fun x y => Apt x.2 y.2) → (∀ x ∈ os, ∀ b ∈ x.2.blk, b ∉ s.blk) → R (tcSV (clampT t most) s d) w1) : Ret Tryd.prog 35 [tcSV t so d, .int .i64 most] w R := by
  refine f35_of _ _ _ _ _ _ _ _ _ _ _ _ ?_
  unfold vc35
  have hal := hO.slen
  intro b b1
  generalize hM : imax most 0 = M
  have hcl : (clampT t most).opts = t.opts.map (clampO (synOf t.fl) M) := by rw [← hM]; rfl
  refine ⟨fun s i w1 => Upd [] [] w w1 ∧ w.heap.size ≤ b ∧ w.heap.size ≤ b1 ∧ b < w1.heap.size ∧ b1 < w1.heap.size ∧ Own w.heap.size 2 w1 s ∧ (∀ x ∈ s.blk, x ≠ b ∧ x ≠ b1) ∧ ∃ (q : Nat) (os : List (Int × Sl)), i = q ∧ q ≤ t.opts.length ∧ Opts w1 s ((t.opts.take q).map (clampO (synOf t.fl) M)) os ∧ (∀ x ∈ os, Own w.heap.size 1 w1 x.2) ∧ (∀ x ∈ os, ∀ z ∈ x.2.blk, z ∉ s.blk ∧ z ≠ b ∧ z ≠ b1) ∧ os.Pairwise (fun x y => Apt x.2 y.2), fun _ i _ => (t.opts.length - i).toNat,
    fun w1 u => ⟨u.forget, (u.new (b := b) (by simp)).1, (u.new (b := b1) (by simp)).1, (u.new (b := b) (by simp)).2, (u.new (b := b1) (by simp)).2, Own.none _ _ _, by simp [Sl.blk], 0, [], rfl, by omega, Opts.nil _ _ _, by simp, by simp, by simp⟩, ?_⟩
  rintro s i w1 ⟨u, nb, nb1, lb, lb1, o, hsb, q, os', rfl, hq, ho, hos, hap, hpw⟩
  have h1 := hO.old u
  have y1 := u.size
  refine brd (fun hlt => ?_) (fun hge => ?_)
  · have hq2 : q < t.opts.length := by omega
    obtain ⟨g1, g2, g3, g4⟩ := h1.get q hq2
    have hdq := hd _ (List.getElem_mem hq2)
    have hbq := hb _ (List.getElem_mem hq2)
    refine needO h1 (by omega) (by omega) ⟨_, (by rw [Int.toNat_natCast]; exact g1), _, (by rw [Int.toNat_natCast]; exact g2), ?_⟩
    intro b2 w2 u2
    have n2 := u2.new (b := b2) (by simp)
    have y2 := u2.size
    refine append_own (c := cU8) (l := []) (Sees.nil _ _ _ _) (Own.none w2.heap.size _ _) (g3.old u2) (Nat.le_refl _) (by simp [Sl.blk]) (by decide) (by simpa using hdq) fun r w3 hr3 ho3 u3 _ => ?_
    rw [List.nil_append] at hr3
    have u3' : Upd [] [] w2 w3 := by simpa [Sl.blk] using u3
    have y3 := u3'.size
    intro J hJ w4 u4
    have v3 := (u.then u2).then u3'
    have v4 := v3.step0 u4 (by simp; omega)
    have y4 := u4.size
    have hr4 : SeesB w4 r t.opts[q].data := hr3.upd u4 (fun x hx hm => by have := (ho3.blk x hx).1; simp at hm; omega)
    have hor4 : Own w2.heap.size 1 w4 r := ho3.upd u4 (fun x hx hm => by have := (ho3.blk x hx).1; simp at hm; omega)
    -- what is next, behind the new option's data
    have next : ∀ (D : Sl) (w5 : World), Upd [] [] w w5 → w4.heap.size ≤ w5.heap.size → Opts w5 s ((t.opts.take q).map (clampO (synOf t.fl) M)) os' → Own w.heap.size 2 w5 s → (∀ x ∈ os', Own w.heap.size 1 w5 x.2) → SeesB w5 D (clampO (synOf t.fl) M t.opts[q]).data → Own w2.heap.size 1 w5 D → J t.opts[q].kind D w5 := by
      intro D w5 v5 y5 hO5 o5 hos5 hD oD
      refine hJ _ _ _ ?_
      intro b3 w6 u6 hr6
      have y6 := u6.size
      have O6 := hO5.old u6
      have o6 := o5.old u6
      have bs := o.blk
      refine append_own (c := cOpt) (new := [((clampO (synOf t.fl) M t.opts[q]).kind, D)]) O6.row o6 (optRow hr6 (by rw [clampO_len.2]; rfl) rfl) (by omega) (fun x hx hm => by
        have h1 := hsb x hx
        have h2 := (bs x hx).2
        simp at hm
        omega) (by decide) (by simp [O6.len]; omega) fun r7 w7 hr7 ho7 u7 hn => ?_
      have dis : ∀ x ∈ D.blk, x ∉ s.blk := fun x hx hm => by have := (oD.blk x hx).1; have := (bs x hm).2; omega
      have hd7 := (hD.old u6).upd u7 dis
      have hOs := Opts.snoc (o := clampO (synOf t.fl) M t.opts[q]) O6 hr7 hd7 (fun j h2 => (O6.each j h2).upd u7 (fun z hz => (hap _ (List.getElem_mem _) z hz).1))
      have y7 := u7.size
      have bos : ∀ x ∈ os', ∀ z ∈ x.2.blk, z < w1.heap.size := fun x hx z hz => ((hos x hx).blk z hz).2
      have bD := oD.blk
      (repeat refine And.intro rfl ?_)
      refine ⟨⟨(v5.then u6).step0 u7 (fun x hx => (bs x hx).1), nb, nb1, by omega, by omega, ho7, fun x hx => ?_, q + 1, os' ++ [((clampO (synOf t.fl) M t.opts[q]).kind, D)], wr_succ (by omega), by omega, by rw [take_snoc hq2, List.map_append]; exact hOs, ?_, ?_, ?_⟩, by rw [wr_succ (q := q) (by omega)]; (try dsimp only); omega⟩
      · rcases hn x hx with h' | h'
        · exact hsb x h'
        · omega
      · intro x hx
        rcases List.mem_append.1 hx with hx | hx
        · exact ((hos5 x hx).old u6).upd u7 (fun z hz => (hap x hx z hz).1)
        · rw [List.mem_singleton] at hx
          subst hx
          exact ((oD.old u6).upd u7 dis).mono (by omega)
      · intro x hx z hz
        rcases List.mem_append.1 hx with hx | hx
        · have := hap x hx z hz
          refine ⟨fun hm => ?_, this.2⟩
          rcases hn z hm with h' | h'
          · exact this.1 h'
          · have := bos x hx z hz; omega
        · rw [List.mem_singleton] at hx
          subst hx
          have hz2 := bD z hz
          refine ⟨fun hm => ?_, by omega, by omega⟩
          rcases hn z hm with h' | h'
          · exact dis z hz h'
          · omega
      · rw [List.pairwise_append]
        refine ⟨hpw, by simp, fun x hx y hy z hz hm => ?_⟩
        rw [List.mem_singleton] at hy
        subst hy
        have := bos x hx z hz
        have := (bD z hm).1
        omega
    have bs := o.blk
    have bos : ∀ x ∈ os', ∀ z ∈ x.2.blk, z < w1.heap.size := fun x hx z hz => ((hos x hx).blk z hz).2
    have sb2 : ∀ x ∈ s.blk, x ∉ [b2] := fun x hx hm => by have := (bs x hx).2; simp at hm; omega
    have ob2 : ∀ y ∈ os', ∀ x ∈ y.2.blk, x ∉ [b2] := fun y hy x hx hm => by have := bos y hy x hx; simp at hm; omega
    have O4 := ((ho.old u2).old u3').upd u4 sb2 ob2
    have o4 := ((o.old u2).old u3').upd u4 sb2
    have os4 : ∀ x ∈ os', Own w.heap.size 1 w4 x.2 := fun x hx => (((hos x hx).old u2).old u3').upd u4 (ob2 x hx)
    refine c79 (o := t.opts[q]) hr4 hbq fun w5 u5 => ?_
    have y5 := u5.size
    have v5 := v4.then u5
    have keep : clampO (synOf t.fl) M t.opts[q] = t.opts[q] → J t.opts[q].kind r w5 := fun he =>
      next r w5 v5 y5 (O4.old u5) (o4.old u5) (fun x hx => (os4 x hx).old u5) (by rw [he]; exact hr4.old u5) (hor4.old u5)
    by_cases ht : tells t.opts[q]
    · rw [if_pos ht]
      refine ⟨_, _, rfl, kp u5, ?_⟩
      (repeat refine And.intro rfl ?_)
      refine brt rfl (brd (fun hgt => ?_) (fun hgt => ?_))
      · by_cases hsy : synOf t.fl = true
        · refine brt hsy ?_
          intro b6 w6 u6 hr6 w7 u7
          (repeat refine And.intro rfl ?_)
          have n6 := u6.new (b := b6) (by simp)
          have ec : clampO (synOf t.fl) M t.opts[q] = ⟨t.opts[q].kind, [M / 256 % 256, M % 256]⟩ := by unfold clampO; rw [if_pos ⟨ht, by omega, hsy⟩]
          have hd6 : SeesB w6 ⟨some ⟨b6, 0, none⟩, 2, 2⟩ [M / 256 % 256, M % 256] := rowB hr6 _ (by rw [gshr8, wr_u8, wr_u8]; rfl) rfl
          have hod6 : Own w2.heap.size 1 w6 ⟨some ⟨b6, 0, none⟩, 2, 2⟩ := own_row hr6 (by omega) rfl (Nat.le_refl _)
          have d62 : ∀ x ∈ (⟨some ⟨b6, 0, none⟩, 2, 2⟩ : Sl).blk, x ∉ [b2] := fun x hx hm => by simp [Sl.blk] at hx hm; omega
          exact next _ w7 ((v5.then u6).step0 u7 (by simp; omega)) (by have := u6.size; have := u7.size; omega) (((O4.old u5).old u6).upd u7 sb2 ob2) (((o4.old u5).old u6).upd u7 sb2) (fun x hx => (((os4 x hx).old u5).old u6).upd u7 (ob2 x hx)) (by rw [ec]; exact hd6.upd u7 d62) (hod6.upd u7 d62)
        · refine brf (by unfold synOf at hsy; simpa using hsy) ?_
          (repeat refine And.intro rfl ?_)
          exact keep (by unfold clampO; rw [if_neg (fun x => hsy x.2.2)])
      · (repeat refine And.intro rfl ?_)
        exact keep (by unfold clampO; rw [if_neg (fun x => hgt (by have := x.2.1; omega))])
    · rw [if_neg ht]
      refine ⟨_, _, rfl, kp u5, ?_⟩
      refine brf rfl ?_
      (repeat refine And.intro rfl ?_)
      exact keep (by unfold clampO; rw [if_neg (fun x => ht x.1)])
  · have hqe : q = t.opts.length := by omega
    subst hqe
    rw [List.take_length] at ho
    intro w2 u2
    have q1 : ∀ x ∈ s.blk, x ∉ [b1, b] := fun x hx hm => by have := hsb x hx; simp at hm; omega
    have q2 : ∀ y ∈ os', ∀ x ∈ y.2.blk, x ∉ [b1, b] := fun y hy x hx hm => by have := (hap y hy x hx).2; simp at hm; omega
    have := k s os' w2 (u.step0 u2 (by simp; omega)) (by rw [hcl]; exact ho.upd u2 q1 q2) (o.upd u2 q1) (fun x hx => (hos x hx).upd u2 (q2 x hx)) hpw (fun x hx z hz => (hap x hx z hz).1)
    exact this
end
end Go.Vc.S9
end
