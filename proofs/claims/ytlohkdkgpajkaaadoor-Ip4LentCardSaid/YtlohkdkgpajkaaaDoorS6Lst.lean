import Derived.Test.YtlohkdkgpajkaaaDoorS6TxtRm
import Derived.Test.YtlohkdkgpajkaaaDoorS6Book
open Go Go.Vc Go.Proofs
set_option linter.unusedVariables false
set_option linter.unusedSimpArgs false
set_option autoImplicit false
namespace Go.Vc.S6
/-- options, each with bytes in an array of its own -/
structure Lst (N : Nat) (w : World) (s : Sl) (l : List Opt) (os : List (Int × Sl)) : Prop where
  opts : Opts w s l os
  own : Own N 2 w s
  owns : ∀ x ∈ os, Own N 1 w x.2
  dis : ∀ i j (hi : i < os.length) (hj : j < os.length), i ≠ j → ∀ b ∈ os[i].2.blk, b ∉ os[j].2.blk
  off : ∀ x ∈ os, ∀ b ∈ x.2.blk, b ∉ s.blk
def lstB (s : Sl) (os : List (Int × Sl)) : List Nat := s.blk ++ os.flatMap fun x => x.2.blk
theorem lstB_mem {s : Sl} {os : List (Int × Sl)} {b : Nat} : b ∈ lstB s os ↔ b ∈ s.blk ∨ ∃ x ∈ os, b ∈ x.2.blk := by simp [lstB]
section
variable {N : Nat} {w w1 : World} {s : Sl} {l : List Opt} {os : List (Int × Sl)} {R : SV → World → Prop}
theorem Lst.upd {m n : List Nat} (h : Lst N w s l os) (u : Upd m n w w1) (hm : ∀ x ∈ lstB s os, x ∉ m) : Lst N w1 s l os :=
  have h1 : ∀ b ∈ s.blk, b ∉ m := fun b hb => hm b (lstB_mem.2 (.inl hb))
  have h2 : ∀ x ∈ os, ∀ b ∈ x.2.blk, b ∉ m := fun x hx b hb => hm b (lstB_mem.2 (.inr ⟨x, hx, hb⟩))
  ⟨h.opts.upd u h1 h2, h.own.upd u h1, fun x hx => (h.owns x hx).upd u (h2 x hx), h.dis, h.off⟩
theorem Lst.old {n : List Nat} (h : Lst N w s l os) (u : Upd [] n w w1) : Lst N w1 s l os := h.upd u (by simp)
theorem Lst.lt (h : Lst N w s l os) : ∀ x ∈ lstB s os, N ≤ x ∧ x < w.heap.size := fun x hx => by
  rcases lstB_mem.1 hx with q | ⟨y, hy, q⟩
  · exact h.own.blk x q
  · exact (h.owns y hy).blk x q
theorem Lst.mono {M : Nat} (h : Lst N w s l os) (hM : M ≤ N) : Lst M w s l os := ⟨h.opts, h.own.mono hM, fun x hx => (h.owns x hx).mono hM, h.dis, h.off⟩
end
section
variable {w w1 : World} {R : SV → World → Prop}
theorem c65D {a : Sl} {l : List Opt} {os : List (Int × Sl)} (h : Opts w a l os) (hl : l.length ≤ 4398046511104) (hd : ∀ o ∈ l, o.data.length ≤ 140737488355328)
    (k : ∀ s os w1, Upd [] [] w w1 → Lst w.heap.size w1 s l os → (∀ y ∈ os, y.2.len ≤ y.2.cap) → R (.slice s) w1) : Ret Tryd.prog 65 [.slice a] w R := by
  refine f65_of _ _ _ ?_
  unfold vc65
  have hal := h.slen
  refine ⟨fun s i w1 => Upd [] [] w w1 ∧ ∃ (q : Nat) (os : List (Int × Sl)), i = q ∧ q ≤ l.length ∧ Lst w.heap.size w1 s (l.take q) os, fun _ i _ => (l.length - i).toNat,
    ⟨Upd.refl w, 0, [], rfl, by omega, Opts.nil _ _ _, Own.none _ _ _, by simp, by simp, by simp⟩, ?_⟩
  rintro s i w1 ⟨u, q, os', rfl, hq, hL⟩
  have h1 := h.old u
  refine brd (fun hlt => ?_) (fun hge => ?_)
  · have hq2 : q < l.length := by omega
    obtain ⟨g1, g2, g3, g4⟩ := h1.get q hq2
    refine needO h1 (by omega) (by omega) ⟨_, (by rw [Int.toNat_natCast]; exact g1), needO h1 (by omega) (by omega) ⟨_, (by rw [Int.toNat_natCast]; exact g2), fun w2 u2 => ?_⟩⟩
    refine c23 (g3.old u2) (hd _ (List.getElem_mem hq2)) fun d w3 u3 hs3 ho3 => ⟨_, rfl, u2.then u3, ?_⟩
    have v3 := (u.then u2).then u3
    intro b w4 u4 hr4
    have v4 := v3.then u4
    have y2 := u2.size; have y3 := u3.size; have y4 := u4.size
    have hL4 := ((hL.old u2).old u3).old u4
    have lt := hL.lt
    refine append_own (c := cOpt) (new := [(l[q].kind, d)]) hL4.opts.row hL4.own (optRow hr4 rfl rfl) v4.size (by simp) (by decide) (by simp [hL4.opts.len]; omega) fun r w5 hr ho5 u5 hn => ?_
    have sl : ∀ x ∈ s.blk, x < w1.heap.size := fun x hx => (lt x (lstB_mem.2 (.inl hx))).2
    have ol : ∀ y ∈ os', ∀ x ∈ y.2.blk, x < w1.heap.size := fun y hy x hx => (lt x (lstB_mem.2 (.inr ⟨y, hy, hx⟩))).2
    have dis : ∀ x ∈ d.blk, x ∉ s.blk := fun x hx hm => by have := (ho3.blk x hx).1; have := sl x hm; omega
    have hd5 := (hs3.old u4).upd u5 dis
    have hOs := Opts.snoc (o := l[q]) hL4.opts hr hd5 (fun j h2 => (hL4.opts.each j h2).upd u5 (hL.off _ (List.getElem_mem _)))
    refine ⟨⟨v4.step0 u5 (fun x hx => (lt x (lstB_mem.2 (.inl hx))).1), q + 1, os' ++ [(l[q].kind, d)], wr_succ (by omega), by omega, by rw [take_snoc hq2]; exact hOs, ho5, ?_, ?_, ?_⟩, by rw [wr_succ (q := q) (by omega)]; (try dsimp only); omega⟩
    · intro x hx
      rcases List.mem_append.1 hx with hx | hx
      · exact (hL4.owns x hx).upd u5 (hL.off x hx)
      · rw [List.mem_singleton] at hx
        subst hx
        exact ((ho3.old u4).upd u5 dis).mono (by have := u.size; omega)
    · intro i j hi hj hne b' hb' hm
      by_cases ei : i < os'.length
      · rw [List.getElem_append_left ei] at hb'
        by_cases ej : j < os'.length
        · rw [List.getElem_append_left ej] at hm
          exact hL.dis i j ei ej hne b' hb' hm
        · have e : j = os'.length := by simp at hj; omega
          subst e
          simp at hm
          have := ol _ (List.getElem_mem ei) b' hb'
          have := (ho3.blk b' hm).1
          omega
      · have e : i = os'.length := by simp at hi; omega
        subst e
        simp at hb'
        have ej : j < os'.length := by simp at hj; omega
        rw [List.getElem_append_left ej] at hm
        have := ol _ (List.getElem_mem ej) b' hm
        have := (ho3.blk b' hb').1
        omega
    · intro x hx b' hb' hm
      rcases List.mem_append.1 hx with hx | hx
      · rcases hn b' hm with h' | h'
        · exact hL.off x hx b' hb' h'
        · have := ol x hx b' hb'; omega
      · rw [List.mem_singleton] at hx
        subst hx
        rcases hn b' hm with h' | h'
        · exact dis b' hb' h'
        · have := (ho3.blk b' hb').2; omega
  · have : q = l.length := by omega
    subst this
    rw [List.take_length] at hL
    exact k s os' w1 u hL (fun y hy => (hL.owns y hy).le)
theorem c26D {va : IpV} {sa da : Sl} {oa : List (Int × Sl)} (hO : Opts w sa va.opts oa) (hl : va.opts.length ≤ 4398046511104) (hod : ∀ o ∈ va.opts, o.data.length ≤ 140737488355328) (hD : SeesB w da va.data) (hdl : va.data.length ≤ 140737488355328)
    (k : ∀ s os d w1, Upd [] [] w w1 → Lst w.heap.size w1 s va.opts os → SeesB w1 d va.data → Own w.heap.size 1 w1 d → (∀ x ∈ d.blk, x ∉ lstB s os) → R (ipSV va s d) w1) : Ret Tryd.prog 26 [ipSV va sa da] w R := by
  refine f26_of _ _ _ _ _ _ _ _ _ _ _ _ _ _ _ ?_
  unfold vc26
  intro b b1 w1 u1
  have n1 := u1.new (b := b) (by simp)
  have n2 := u1.new (b := b1) (by simp)
  have y1 := u1.size
  refine c65D (hO.old u1) hl hod fun s os w2 u2 hL _ => ⟨_, rfl, kp u2, fun w3 u3 => ?_⟩
  have v3 := (u1.then u2).step0 u3 (by simp; omega)
  have y2 := u2.size
  have y3 := u3.size
  have lt := hL.lt
  refine c23 (hD.old v3) hdl fun d w4 u4 hd hod' => ⟨_, rfl, kp u4, fun w5 u5 => ?_⟩
  have q53 : ∀ x ∈ d.blk, x ∉ [b1, b] := fun x hx hm => by have := (hod'.blk x hx).1; simp at hm; omega
  refine k s os d w5 ((v3.then u4).step0 u5 (by simp; omega)) (((hL.upd u3 (fun x hx hm => by have := lt x hx; simp at hm; omega)).old u4).upd u5 (fun x hx hm => by have := lt x hx; simp at hm; omega) |>.mono y1) (hd.upd u5 q53) ((hod'.upd u5 q53).mono v3.size) (fun x hx hm => by have := (hod'.blk x hx).1; have := lt x hm; omega)
end
section
variable {N : Nat} {w w1 : World} {s data : Sl} {l : List Opt} {os : List (Int × Sl)} {dl : List Int} {R : SV → World → Prop}
/-- one byte of one option is another -/
theorem Lst.set {i q : Nat} {v : Int} {vs : List Value} {bs : List Nat} {F : World → Prop} (h : Lst N w s l os) (hi : i < l.length) (hq : q < l[i].data.length) (hvs : vs = [.int .u8 v]) (hbs : ∀ b ∈ lstB s os, b ∉ bs)
    (k : ∀ w1, Lst N w1 s (l.set i { l[i] with data := l[i].data.set q v }) os → Upd (lstB s os) [] w w1 → F w1) : Store w ((os[i]'(by rw [h.opts.len]; exact hi)).2.at 1 q) vs bs F := by
  subst hvs
  have hi' : i < os.length := by rw [h.opts.len]; exact hi
  have mem := List.getElem_mem hi'
  have inB : ∀ b ∈ os[i].2.blk, b ∈ lstB s os := fun b hb => lstB_mem.2 (.inr ⟨_, mem, hb⟩)
  refine own_set (c := cU8) (i := q) (x := v) (h.opts.each i hi) (h.owns _ mem) (by decide) hq rfl (fun b hb => hbs b (inB b hb)) fun w1 h1 o1 u1 => ?_
  refine k w1 ⟨⟨h.opts.row.upd u1 (fun b hb hm => h.off _ mem b hm hb), by rw [List.length_set]; exact h.opts.len, fun j hj => ?_, fun j hj => ?_⟩, h.own.upd u1 (fun b hb hm => h.off _ mem b hm hb), fun x hx => ?_, h.dis, h.off⟩ (u1.wide inB)
  · rw [List.length_set] at hj
    by_cases e : i = j
    · subst e; simp only [List.getElem_set_self]; exact h.opts.kind i hj
    · rw [List.getElem_set_ne e]; exact h.opts.kind j hj
  · rw [List.length_set] at hj
    by_cases e : i = j
    · subst e; simp only [List.getElem_set_self]; exact h1
    · rw [List.getElem_set_ne e]; exact (h.opts.each j hj).upd u1 (fun b hb hm => h.dis j i (by rw [h.opts.len]; exact hj) hi' (fun e' => e e'.symm) b hb hm)
  · obtain ⟨j, hj, rfl⟩ := List.getElem_of_mem hx
    by_cases e : i = j
    · subst e; exact o1
    · exact (h.owns _ hx).upd u1 (fun b hb hm => h.dis j i hj hi' (fun e' => e e'.symm) b hb hm)
/-- the lists' forms -/
def frm (l : List Opt) : List (Int × Nat) := l.map fun o => (o.kind, o.data.length)
theorem frm_set {i : Nat} {d : List Int} (hi : i < l.length) (hd : d.length = l[i].data.length) : frm (l.set i { l[i] with data := d }) = frm l := by
  unfold frm
  rw [List.map_set]
  apply List.ext_getElem
  · simp
  · intro j h1 h2
    rw [List.getElem_set]
    split
    · rename_i e; subst e; simp [hd]
    · rfl
set_option maxRecDepth 10000 in
theorem c41 {t : Nat → Int} (hd : SeesB w data dl) (od : Own N 1 w data) (hb : Byt dl) (h : Lst N w s l os) (hap : ∀ x ∈ data.blk, x ∉ lstB s os) (hbo : ∀ o ∈ l, Byt o.data) (ht : -9223372036854775808 ≤ t 0 ∧ t 0 ≤ 9223372036854775807)
    (hdl : dl.length ≤ 140737488355328) (hll : l.length ≤ 140737488355328) (hol : ∀ o ∈ l, o.data.length ≤ 140737488355328)
    (k : ∀ w1 dl' l', Upd (data.blk ++ lstB s os) [] w w1 → SeesB w1 data dl' → Own N 1 w1 data → Lst N w1 s l' os → dl'.length = dl.length → frm l' = frm l → Byt dl' → (∀ o ∈ l', Byt o.data) → R (.tuple []) w1) :
    Ret Tryd.prog 41 [.slice data, .slice s, .arr .i64 2 t] w R := by
  refine f41_of _ _ _ _ _ ?_
  unfold vc41
  have hdn := hd.len
  have hsn := h.opts.slen
  intro b J hJ
  have off : ∀ w1, Upd [] [b] w w1 → ∀ x, (x ∈ data.blk ∨ x ∈ lstB s os) → x ∉ [b] := fun w1 u1 x hx hm => by
    have e1 := u1.new (b := b) (by simp)
    simp at hm
    rcases hx with q | q
    · have := od.blk x q; omega
    · have := h.lt x q; omega
  have pt : ∀ dl' w1, (∀ x, (x ∈ data.blk ∨ x ∈ lstB s os) → x ∉ [b]) → Upd (data.blk ++ lstB s os) [] w w1 → SeesB w1 data dl' → Own N 1 w1 data → Lst N w1 s l os → dl'.length = dl.length → Byt dl' → J w1 := by
    intro dl' w1 hoff u1 hd1 od1 h1 hlen hb1
    refine hJ _ ?_
    clear hJ
    refine bre (fun _ => k w1 dl' l u1 hd1 od1 h1 hlen rfl hb1 hbo) (fun hne => ?_)
    have hpos : 0 < l.length := by
      rcases Nat.eq_zero_or_pos l.length with e | e
      · exact absurd (by rw [hsn, e]; rfl) hne
      · exact e
    rw [hsn]
    refine c54 hpos (by omega) ht fun i hi => ⟨_, rfl, kp (Upd.refl _), ?_⟩
    obtain ⟨g1, g2, g3, g4⟩ := h1.opts.get i hi
    have hoi := hol _ (List.getElem_mem hi)
    have hg3 := g3.len
    rw [Int.toNat_natCast]
    refine needIx (by omega) (by omega) g4 ⟨_, g2, brd (fun hp w2 u2 => ?_) (fun _ => k w1 dl' l u1 hd1 od1 h1 hlen rfl hb1 hbo)⟩
    rw [hg3]
    refine c54 (by omega) (by omega) ht fun q hq => ⟨_, rfl, kp (Upd.refl _), u2, ?_⟩
    refine needIx (by omega) (by omega) (g3.isSome (by decide) (by omega)) ?_
    rw [Int.toNat_natCast]
    refine (h1.old u2).set (v := wr .u8 (t 1)) hi hq rfl (fun x hx => hoff x (.inr hx)) fun w3 h3 u3 => ?_
    have kd : ∀ x ∈ data.blk, x ∉ lstB s os := hap
    refine k w3 dl' _ ((u1.step u2 (by simp)).step u3 (fun x hx => .inr (List.mem_append_right _ hx))) ((hd1.old u2).upd u3 kd) ((od1.old u2).upd u3 kd) h3 hlen (frm_set hi (by simp)) hb1 ?_
    intro o ho
    rcases List.mem_or_eq_of_mem_set ho with q | q
    · exact hbo o q
    · subst q; exact (hbo _ (List.getElem_mem hi)).set q (wr_u8_range _)
  refine brd (fun hpos w1 u1 => ?_) (fun _ w1 u1 => ⟨rfl, pt dl w1 (off w1 u1) (u1.wide (by simp)) (hd.old u1) (od.old u1) (h.old u1) rfl hb⟩)
  rw [hdn]
  refine c54 (by omega) (by omega) ht fun q hq => ⟨_, rfl, kp (Upd.refl _), u1.forget, ?_⟩
  refine needIx (by omega) (by omega) (hd.isSome (by decide) (by omega)) ?_
  rw [Int.toNat_natCast]
  refine own_set (c := cU8) (i := q) (x := wr .u8 (t 1)) (hd.old u1) (od.old u1) (by decide) hq rfl (fun x hx => off w1 u1 x (.inl hx)) fun w2 h2 o2 u2 => ?_
  refine ⟨rfl, ?_⟩
  exact pt _ w2 (off w1 u1) ((u1.wide (m' := data.blk ++ lstB s os) (by simp)).step u2 (fun x hx => .inr (List.mem_append_left _ hx))) h2 o2 ((h.old u1).upd u2 (fun x hx hm => hap x hm hx)) (by simp) (hb.set q (wr_u8_range _))
end
end Go.Vc.S6
