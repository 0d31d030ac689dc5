import Derived.Test.YtkkdnnpnbmpifaaS11Lay
open Go Go.Vc Go.Proofs
set_option linter.unusedVariables false
set_option linter.unusedSimpArgs false
set_option autoImplicit false
namespace Go.Vc.S11
section
variable {w0 w' w w1 : World} {R : SV → World → Prop} {N n nb bk : Nat} {p0 q0 p1 q1 : Option Addr} {L : List Nat} {S : Hs} {off : Int} {l : List Int} {more : Bool}
theorem sees_kept {α : Type} {c : Cod α} {s : Sl} {xs : List α} (h : Sees c w s xs) (k : ∀ x ∈ s.blk, w1.heap[x]? = w.heap[x]?) : Sees c w1 s xs := by
  refine ⟨h.len, ?_⟩
  have hr := h.row
  cases hp : s.ptr with
  | none => rw [hp] at hr; exact hr
  | some a =>
    rw [hp] at hr
    intro i hi
    have h2 := k a.block (by simp [blk_some hp])
    rw [← hr i hi]
    simp only [World.cell?, add_block, h2]
theorem own_kept {N sz : Nat} {s : Sl} (h : Own N sz w s) (k : ∀ x ∈ s.blk, w1.heap[x]? = w.heap[x]?) : Own N sz w1 s := by
  refine ⟨h.le, h.nil, fun b hb => ⟨(h.blk b hb).1, ?_⟩, fun a ha => ⟨(h.cell a ha).1, fun i hi => ?_⟩⟩
  · have h2 := k b hb
    rw [Array.getElem?_eq_getElem (h.blk b hb).2] at h2
    exact (Array.getElem?_eq_some_iff.1 h2).1
  · have h2 := k a.block (by simp [blk_some ha])
    have h3 := (h.cell a ha).2 i hi
    simp only [World.cell?, World.frozen?, add_block, h2] at h3 ⊢
    exact h3
/-- a piece is laid, marks behind it -/
theorem c25 {buf data : Sl} {xs l : List Int} {M : Nat} (hb : SeesB w buf xs) (ho : Own M 1 w buf) (hd : SeesB w data l) (hl : l.length ≤ xs.length) (hK : xs.length ≤ 1000000)
    (k : ∀ w1, Upd buf.blk [] w w1 → SeesB w1 buf (l ++ (dmks xs.length).drop l.length) → Own M 1 w1 buf → R (.slice (buf.sub 1 0 l.length buf.cap)) w1) : Ret Try.prog 25 [.slice buf, .slice data] w R := by
  refine f25_of _ _ _ _ ?_
  unfold vc25
  have hbl := hb.len
  have hdl := hd.len
  have le := ho.le
  refine copy_own (c := cU8) hb ho hd (by simp) fun w1 h1 o1 u1 => ?_
  rw [List.take_of_length_le hl] at h1
  rw [hdl]
  refine ⟨fun i w' => Upd buf.blk [] w w' ∧ Own M 1 w' buf ∧ ∃ (t : Nat) (ys : List Int), i = t ∧ l.length ≤ t ∧ t ≤ xs.length ∧ ys.length = xs.length ∧ SeesB w' buf ys ∧ ys.take t = l ++ ((dmks xs.length).take t).drop l.length, fun i _ => (xs.length - i).toNat, ⟨u1, o1, l.length, _, rfl, Nat.le_refl _, hl, by simp; omega, h1, by rw [List.take_left, List.drop_of_length_le (by simp; omega), List.append_nil]⟩, ?_⟩
  rintro i w2 ⟨u2, o2, t, ys, rfl, ht1, ht2, hyl, h2, he⟩
  have hdm : (dmks xs.length).length = xs.length := dmks_len _
  refine brd (fun hlt => ?_) (fun hge => ?_)
  · refine needIx (by omega) hlt (h2.isSome (by decide) (by omega)) ?_
    rw [Int.toNat_natCast]
    refine own_set (c := cU8) (x := dmk t) h2 o2 (by decide) (by omega) rfl (by simp) fun w3 h3 o3 u3 => ?_
    refine ⟨⟨u2.step u3 (fun x hx => .inr hx), o3, t + 1, _, wr_succ (by omega), by omega, by omega, by simp [hyl], h3, ?_⟩, by rw [wr_succ (by omega)]; (try dsimp only); omega⟩
    have e1 : (ys.set t (dmk t)).take (t + 1) = ys.take t ++ [dmk t] := by
      rw [List.take_add_one, List.getElem?_set_self (by omega), List.take_set_of_le (Nat.le_refl _)]
      rfl
    have e2 : (dmks xs.length).take (t + 1) = (dmks xs.length).take t ++ [dmk t] := by
      rw [List.take_add_one, List.getElem?_eq_getElem (by omega)]
      simp [dmks]
    rw [e1, e2, he, List.drop_append_of_le_length (by simp; omega), List.append_assoc]
  · have : t = xs.length := by omega
    subst this
    rw [List.take_of_length_le (by omega), List.take_of_length_le (by omega)] at he
    subst he
    refine needIxLe (by omega) (by omega) ?_
    rw [Int.toNat_natCast]
    exact k w2 u2 h2 o2
theorem c27 {buf data : Sl} {l : List Int} {K : Nat} (hb : SeesB w buf (l ++ (dmks K).drop l.length)) (hcap : buf.len ≤ buf.cap) (hd : SeesB w data l) (hl : l.length ≤ K) (hK : K ≤ 1000000) (k : ∀ w1, Upd [] [] w w1 → R (.bool true) w1) : Ret Try.prog 27 [.slice buf, .slice data] w R := by
  refine f27_of _ _ _ _ ?_
  unfold vc27
  have hbl := hb.len
  have hdl := hd.len
  have hdm := dmks_len K
  have hlen : (l ++ (dmks K).drop l.length).length = K := by simp [hdm]; omega
  refine needIxLe (by omega) (by omega) ?_
  rw [hdl, Int.toNat_natCast]
  have hs : SeesB w (buf.sub 1 0 l.length buf.cap) l := by
    have := hb.subB (lo := 0) (hi := l.length) (mx := buf.cap) (by omega) (by omega) (by omega)
    rwa [List.drop_zero, List.take_left] at this
  refine cSameT hs hd (by omega) fun w1 u1 => ⟨_, rfl, brf rfl ?_⟩
  refine ⟨fun i w' => Upd [] [] w w' ∧ ∃ t : Nat, i = t ∧ l.length ≤ t ∧ t ≤ K, fun i _ => (K - i).toNat, ⟨u1, l.length, rfl, Nat.le_refl _, hl⟩, ?_⟩
  rintro i w2 ⟨u2, t, rfl, ht1, ht2⟩
  have h2 := hb.old u2
  refine brd (fun hlt => ?_) (fun hge => k w2 u2)
  refine needB h2 (by omega) (by omega) ⟨_, h2.byte (by omega) (by omega), ?_⟩
  have e1 : bt (l ++ (dmks K).drop l.length) (t : Int) = dmk t := by
    rw [bt_nat (by omega), List.getElem_append_right ht1, List.getElem_drop]
    have : (dmks K)[l.length + (t - l.length)]'(by omega) = dmk (l.length + (t - l.length)) := by simp [dmks]
    rw [this]
    congr 1; omega
  rw [e1]
  exact brf (by simp [dmk]) ⟨⟨u2, t + 1, wr_succ (by omega), by omega, by omega⟩, by rw [wr_succ (by omega)]; (try dsimp only); omega⟩
theorem Half.addL {ms ns L2 : List Nat} (h : Half w0 w p0 q0 p1 q1 n nb bk L S off l more) (u : Upd ms ns w w1) (hm : ∀ x ∈ ms, w.heap.size ≤ x ∨ x ∈ L) (hb : ∀ x ∈ L2, w.heap.size ≤ x ∧ x < w1.heap.size) : Half w0 w1 p0 q0 p1 q1 n nb bk (L2 ++ L) S off l more := by
  obtain ⟨bs0, bs1, hd, ct, a, c, d, e, f, g⟩ := h
  have z := g.size
  have z1 := u.size
  have la := a.lt; have lc := c.lt
  have no0 : ∀ x ∈ bs0, x ∉ ms := fun x hx q => by
    rcases hm x q with r | r
    · have := la x hx; omega
    · exact (f x r).2.2.1 hx
  have l1 : ∀ x ∈ bs1, x < w.heap.size := fun x hx => by
    rcases d with ⟨S1, d1, d2⟩ | ⟨d1, _⟩
    · exact (d1.lt x hx).2
    · exact (la x (d1 ▸ hx)).2
  refine ⟨bs0, bs1, hd, ct, a.upd u no0, c.upd u (fun x hx q => ?_) (fun x hx q => ?_), ?_, e, fun x hx => ?_, g.step0 u (fun x hx => ?_)⟩
  · rcases hm x q with r | r
    · have := lc.1 x hx; omega
    · exact (f x r).2.2.2.2.1 hx
  · rcases hm x q with r | r
    · have := lc.2 x hx; omega
    · exact (f x r).2.2.2.2.2 hx
  · rcases d with ⟨S1, d1, d2⟩ | d
    · refine .inl ⟨S1, d1.upd u (fun x hx q => ?_), d2⟩
      rcases hm x q with r | r
      · have := d1.lt x hx; omega
      · exact (f x r).2.2.2.1 hx
    · exact .inr d
  · rcases List.mem_append.1 hx with q | q
    · have := hb x q
      exact ⟨by omega, this.2, fun r => by have := la x r; omega, fun r => by have := l1 x r; omega, fun r => by have := lc.1 x r; omega, fun r => by have := lc.2 x r; omega⟩
    · exact ⟨(f x q).1, by have := (f x q).2.1; omega, (f x q).2.2⟩
  · rcases hm x hx with r | r
    · omega
    · exact (f x r).1
/-- the document's Put, and what is looked at behind it -/
theorem fin7 {Ls : List Nat} {K : Int → Int → Bool → Int → Nat → World → Prop} {RF : World → Prop} {buf data : Sl} {M KK : Nat} (h : Half w0 w p0 q0 p1 q1 n nb bk L S off l more) (hbuf : SeesB w buf (l ++ (dmks KK).drop l.length)) (ho : Own M 1 w buf) (hd : SeesB w data l) (hb : Byt l) (hl : l.length ≤ KK) (hK : KK ≤ 1000000) (hLs : ∀ x ∈ Ls, x ∈ L) (hdis : ∀ x ∈ data.blk, x ∈ L) (hbl : ∀ x ∈ buf.blk, x ∈ L) (hn : n ≤ 1000000)
    (k : ∀ b w1, Play w0 w1 p0 q0 p1 q1 (n + 1) nb bk L → SeesB w1 buf (l ++ (dmks KK).drop l.length) → Own M 1 w1 buf → K (fitN S off l more) (fitO S off l more) (fitB S off l more) (errS S off l.length more) b w1) :
    Ret Try.prog 26 [.ptr q0, .int .i64 off, .slice data, .bool more] w fun r w2 => ∃ (a c : Int) (d : Bool) (e : Int), r = .tuple [.struct [.int .i64 a, .int .i64 c, .bool d], .int .i64 e] ∧ Keeps Ls w w2 ∧ ∀ b, Br (errS S off l.length more != e) (∀ w3, Upd [] [b] w2 w3 → RF w3) (Br (!(fitN S off l more == a && (fitO S off l more == c && fitB S off l more == d))) (∀ w3, Upd [] [b] w2 w3 → RF w3) (∀ w3, Upd [] [b] w2 w3 → Ret Try.prog 27 [.slice buf, .slice data] w3 fun r w4 => ∃ b2 : Bool, r = .bool b2 ∧ Keeps (Ls ++ [b]) w3 w4 ∧ Br (!b2) (RF w4) (K a c d e b w4))) := by
  refine h.c26 hd hb (by omega) hn hdis fun w2 p2 k2 => ⟨_, _, _, _, rfl, kept_keeps k2 hLs, fun b => brf (by simp) (brf (by simp) fun w3 u3 => ?_)⟩
  have hbuf3 := (sees_kept hbuf (fun x hx => k2 x (hbl x hx))).old u3
  have ho3 := (own_kept ho (fun x hx => k2 x (hbl x hx))).old u3
  have hd3 := (sees_kept hd (fun x hx => k2 x (hdis x hx))).old u3
  exact c27 hbuf3 ho3.le hd3 hl hK fun w4 u4 => ⟨_, rfl, kp u4, brf rfl (k b w4 ((p2.old u3).old u4) (hbuf3.old u4) (ho3.old u4))⟩
set_option maxRecDepth 20000 in
theorem t7a {J : World → Prop} {kind : Int} {b6 b1 b2 b b3 M : Nat} {s : Sl} {xs : List Int} (pl : Play w0 w p0 q0 p1 q1 n nb bk [b1, b2, b, b3]) (hbuf : SeesB w ⟨some ⟨b3, 0, none⟩, 8262, 8262⟩ xs) (hx : xs.length = 8262) (ho : Own M 1 w ⟨some ⟨b3, 0, none⟩, 8262, 8262⟩) (hs : SeesB w s l) (hb : Byt l) (hc : s.len ≤ s.cap) (hn : n ≤ 1000000) (hnb : nb ≤ 1000000) (hne : b3 ≠ b1 ∧ b3 ≠ b2 ∧ b3 ≠ b)
    (hJ : ∀ w1 xs', Play w0 w1 p0 q0 p1 q1 (n + 1) (nb + 1) bk [b1, b2, b, b3] → SeesB w1 ⟨some ⟨b3, 0, none⟩, 8262, 8262⟩ xs' → xs'.length = 8262 → Own M 1 w1 ⟨some ⟨b3, 0, none⟩, 8262, 8262⟩ → J w1) : tail7a kind b6 w p0 q0 bk b1 b2 b R p1 q1 J s b3 off more := by
  unfold tail7a
  intro b7
  generalize hB : (⟨some ⟨b3, 0, none⟩, 8262, 8262⟩ : Sl) = buf at *
  have hbb : ∀ x ∈ buf.blk, x = b3 := by subst hB; simp [Sl.blk]
  have box : ∀ w1, Upd [] [b7, b6] w w1 → Play w0 w1 p0 q0 p1 q1 n nb bk ([b7, b6] ++ [b1, b2, b, b3]) := fun w1 u1 => pl.addL u1 (by simp) (fun x hx => u1.new hx)
  have only : ∀ w1, Upd [] [b7, b6] w w1 → J w1 := fun w1 u1 => hJ w1 xs ((pl.old u1).raise (by omega) (by omega)) (hbuf.old u1) hx (ho.old u1)
  refine bre' (fun h1 => brd (fun h2 => brd (fun h3 => fun w1 u1 => ?_) (fun h3 => fun w1 u1 => ?_)) (fun h2 => fun w1 u1 => ?_)) (fun h1 => fun w1 u1 => ?_)
  · refine (box w1 u1).c22 hnb fun w2 p2 k2 => ⟨_, rfl, kept_keeps k2 (by simp), brf rfl ?_⟩
    (repeat refine And.intro rfl ?_)
    refine hJ w2 xs ((p2.less (by simp)).raise (by omega) (by omega)) (sees_kept (hbuf.old u1) (fun x hx => k2 x (by simp [hbb x hx]))) hx (own_kept (ho.old u1) (fun x hx => k2 x (by simp [hbb x hx])))
  · (repeat refine And.intro rfl ?_)
    exact only w1 u1
  · (repeat refine And.intro rfl ?_)
    exact only w1 u1
  · have p1' := box w1 u1
    refine c13 (hs.old u1) hc fun s2 w2 u2 hs2 ho2 => ⟨_, rfl, kp u2, ?_⟩
    have nb6 := u1.new (b := b6) (by simp)
    have nb7 := u1.new (b := b7) (by simp)
    have lt0 := pl.lt b3 (by simp)
    have bne : ∀ x ∈ [b1, b2, b, b6, b7], x ≠ b3 := fun x hx' e => by
      subst e
      simp only [List.mem_cons, List.not_mem_nil, or_false] at hx'
      omega
    have g2 := ho2.blk
    have pl2 := p1'.addL u2 (by simp) g2
    have hl2 : (l.take 4096).length ≤ 4096 := by simp; omega
    have hb2 : Byt (l.take 4096) := hb.take _
    have hbuf2 := (hbuf.old u1).old u2
    have ho2' := (ho.old u1).old u2
    generalize l.take 4096 = l2 at *
    have hsz := hbuf2.len
    have lay : ∀ (w3 : World) (F : SV → World → Prop), Upd [] [] w2 w3 ∨ (∃ b8, Upd [] [b8] w2 w3) → (∀ w4, Upd buf.blk [] w3 w4 → SeesB w4 buf (l2 ++ (dmks 8262).drop l2.length) → Own M 1 w4 buf → SeesB w4 s2 l2 → SeesB w4 (buf.sub 1 0 l2.length buf.cap) l2 → F (.slice (buf.sub 1 0 l2.length buf.cap)) w4) → Ret Try.prog 25 [.slice buf, .slice s2] w3 F := fun w3 F hu hF => by
      have hbuf3 : SeesB w3 buf xs := hu.elim (fun u => hbuf2.old u) (fun ⟨_, u⟩ => hbuf2.old u)
      have ho3 : Own M 1 w3 buf := hu.elim (fun u => ho2'.old u) (fun ⟨_, u⟩ => ho2'.old u)
      have hs3 : SeesB w3 s2 l2 := hu.elim (fun u => hs2.old u) (fun ⟨_, u⟩ => hs2.old u)
      refine c25 hbuf3 ho3 hs3 (by omega) (by omega) fun w4 u4 h4 o4 => ?_
      rw [hx] at h4
      have le := o4.le
      have hs4 := hs3.upd u4 (fun x hx' hm => by
        have := hbb x hm
        subst this
        have := (pl2.lt x (by simp))
        have h5 := g2 x hx'
        have h6 := p1'.lt x (by simp)
        omega)
      refine hF w4 u4 h4 o4 hs4 ?_
      have := h4.subB (lo := 0) (hi := l2.length) (mx := buf.cap) (by omega) (by simp) (by omega)
      rwa [List.drop_zero, List.take_left] at this
    have sub4 : ∀ x ∈ (buf.sub 1 0 l2.length buf.cap).blk, x ∈ s2.blk ++ ([b7, b6] ++ [b1, b2, b, b3]) := fun x hx' => by
      have := hbb x (sub_blk x hx')
      subst this
      simp
    have capS : (buf.sub 1 0 l2.length buf.cap).len ≤ (buf.sub 1 0 l2.length buf.cap).cap := by
      have := ho2'.le
      simp [Sl.sub]; omega
    have bufL : ∀ x ∈ buf.blk, x ∈ s2.blk ++ ([b7, b6] ++ [b1, b2, b, b3]) := fun x hx' => by
      have := hbb x hx'
      subst this
      simp
    have done : ∀ w5, ∀ L5, Play w0 w5 p0 q0 p1 q1 (n + 1) nb bk (L5 ++ (s2.blk ++ ([b7, b6] ++ [b1, b2, b, b3]))) → SeesB w5 buf (l2 ++ (dmks 8262).drop l2.length) → Own M 1 w5 buf → J w5 := fun w5 L5 p5 h5 o5 => hJ w5 _ ((p5.less (fun x hx' => by
      refine List.mem_append_right _ (List.mem_append_right _ ?_)
      exact List.mem_append_right _ hx')).raise (by omega) (by omega)) h5 (by simp [dmks_len]; omega) o5
    refine ⟨[], by simp, ?_, ?_⟩
    · intro w3 u3
      refine lay w3 _ (.inl u3) fun w4 u4 h4 o4 hs4 hsub => ?_
      have p3 := pl2.old u3
      have p4 := p3.upd u4 (fun x hx' => .inr (bufL x hx'))
      have inL : ∀ x ∈ [b1, b2, b, b6, b7], x ∈ s2.blk ++ ([b7, b6] ++ [b1, b2, b, b3]) := by simp
      have kb : Keeps [b1, b2, b, b6, b7] w3 w4 := kpm u4 (fun x hx' => p3.lt x (inL x hx')) (fun x hx' hm => bne x hx' (hbb x hm))
      refine ⟨_, rfl, kb, (fun x hx' => by cases hx'), ?_, fun b8 => ⟨(fun x hx' => by cases hx'), fun w5 u5 => ?_⟩⟩
      · refine p4.c12 hsub capS hb2 sub4 fun S w5 h5 k5 => ⟨_, _, _, _, rfl, kept_keeps k5 (by simp), fun b9 => ⟨(fun x hx' => by cases hx'), fun w6 u6 => ?_⟩⟩
        have hs6 := (sees_kept hs4 (fun x hx' => k5 x (by simp [hx']))).old u6
        have h6 := (sees_kept h4 (fun x hx' => k5 x (bufL x hx'))).old u6
        have o6 := (own_kept o4 (fun x hx' => k5 x (bufL x hx'))).old u6
        have hh6 := h5.addL (L2 := [b9]) u6 (by simp) (fun x hx' => u6.new hx')
        refine fin7 (Ls := [b1, b2, b, b6, b7, b9]) hh6 h6 o6 hs6 hb2 (by omega) (by omega) (by simp) (fun x hx' => by simp [hx']) (fun x hx' => List.mem_append_right _ (bufL x hx')) hn fun b10 w7 p7 h7 o7 => ?_
        (repeat refine And.intro rfl ?_)
        exact done w7 [b9] p7 h7 o7
      · have p5 := p4.addL (L2 := [b8]) u5 (by simp) (fun x hx' => u5.new hx')
        have n5 := u5.new (b := b8) (by simp)
        refine p5.c12 (hsub.old u5) capS hb2 (fun x hx' => List.mem_append_right _ (sub4 x hx')) fun S w6 h6 k6 => ⟨_, _, _, _, rfl, kept_keeps k6 (by simp), fun w7 u7 => ?_⟩
        have b8n : ∀ x, x ∈ s2.blk ∨ x ∈ buf.blk → x ∉ [b8] := fun x hx' hm => by
          rw [List.mem_singleton] at hm
          rcases hx' with q | q
          · have := p4.lt x (by simp [q]); omega
          · have := p4.lt x (bufL x q); omega
        have hs7 := (sees_kept (hs4.old u5) (fun x hx' => k6 x (by simp [hx']))).upd u7 (fun x hx' => b8n x (.inl hx'))
        have h7 := (sees_kept (h4.old u5) (fun x hx' => k6 x (List.mem_append_right _ (bufL x hx')))).upd u7 (fun x hx' => b8n x (.inr hx'))
        have o7 := (own_kept (o4.old u5) (fun x hx' => k6 x (List.mem_append_right _ (bufL x hx')))).upd u7 (fun x hx' => b8n x (.inr hx'))
        have hh7 := h6.upd u7 (fun x hx' => .inr (by rw [List.mem_singleton] at hx'; simp [hx']))
        refine fin7 (Ls := [b1, b2, b, b6, b7, b8]) hh7 h7 o7 hs7 hb2 (by omega) (by omega) (by simp) (fun x hx' => by simp [hx']) (fun x hx' => List.mem_append_right _ (bufL x hx')) hn fun b10 w8 p8 h8 o8 => ?_
        (repeat refine And.intro rfl ?_)
        exact done w8 [b8] p8 h8 o8
    · intro b8
      refine ⟨(fun x hx' => by cases hx'), fun w3 u3 => ?_⟩
      have p3 := pl2.addL (L2 := [b8]) u3 (by simp) (fun x hx' => u3.new hx')
      have n3 := u3.new (b := b8) (by simp)
      refine lay w3 _ (.inr ⟨b8, u3⟩) fun w4 u4 h4 o4 hs4 hsub => ?_
      have p4 := p3.upd u4 (fun x hx' => .inr (List.mem_append_right _ (bufL x hx')))
      have b8n : ∀ x, x ∈ s2.blk ∨ x ∈ buf.blk → x ∉ [b8] := fun x hx' hm => by
        rw [List.mem_singleton] at hm
        rcases hx' with q | q
        · have := pl2.lt x (by simp [q]); omega
        · have := pl2.lt x (bufL x q); omega
      have inL : ∀ x ∈ [b1, b2, b, b6, b7, b8], x ∈ [b8] ++ (s2.blk ++ ([b7, b6] ++ [b1, b2, b, b3])) := by simp
      have kb : Keeps [b1, b2, b, b6, b7, b8] w3 w4 := kpm u4 (fun x hx' => p3.lt x (inL x hx')) (fun x hx' hm => by
        have e := hbb x hm
        simp only [List.mem_cons, List.not_mem_nil, or_false] at hx'
        rcases hx' with q | q | q | q | q | q
        · exact bne x (by simp [q]) e
        · exact bne x (by simp [q]) e
        · exact bne x (by simp [q]) e
        · exact bne x (by simp [q]) e
        · exact bne x (by simp [q]) e
        · exact b8n x (.inr hm) (by simp [q]))
      refine ⟨_, rfl, kb, (fun x hx' => by cases hx'), ?_⟩
      refine p4.c12 hsub capS hb2 (fun x hx' => List.mem_append_right _ (sub4 x hx')) fun S w6 h6 k6 => ⟨_, _, _, _, rfl, kept_keeps k6 (by simp), fun w7 u7 => ?_⟩
      have hs7 := (sees_kept hs4 (fun x hx' => k6 x (by simp [hx']))).upd u7 (fun x hx' => b8n x (.inl hx'))
      have h7 := (sees_kept h4 (fun x hx' => k6 x (List.mem_append_right _ (bufL x hx')))).upd u7 (fun x hx' => b8n x (.inr hx'))
      have o7 := (own_kept o4 (fun x hx' => k6 x (List.mem_append_right _ (bufL x hx')))).upd u7 (fun x hx' => b8n x (.inr hx'))
      have hh7 := h6.upd u7 (fun x hx' => .inr (by rw [List.mem_singleton] at hx'; simp [hx']))
      refine fin7 (Ls := [b1, b2, b, b6, b7, b8]) hh7 h7 o7 hs7 hb2 (by omega) (by omega) (by simp) (fun x hx' => by simp [hx']) (fun x hx' => List.mem_append_right _ (bufL x hx')) hn fun b10 w8 p8 h8 o8 => ?_
      (repeat refine And.intro rfl ?_)
      exact done w8 [b8] p8 h8 o8
set_option maxRecDepth 20000 in
theorem t7b {J : World → Prop} {kind : Int} {b6 b1 b2 b b3 M : Nat} {s : Sl} {xs : List Int} (pl : Play w0 w p0 q0 p1 q1 n nb bk [b1, b2, b, b3]) (hbuf : SeesB w ⟨some ⟨b3, 0, none⟩, 8262, 8262⟩ xs) (hx : xs.length = 8262) (ho : Own M 1 w ⟨some ⟨b3, 0, none⟩, 8262, 8262⟩) (hs : SeesB w s l) (hb : Byt l) (hc : s.len ≤ s.cap) (hn : n ≤ 1000000) (hnb : nb ≤ 1000000) (hne : b3 ≠ b1 ∧ b3 ≠ b2 ∧ b3 ≠ b)
    (hJ : ∀ w1 xs', Play w0 w1 p0 q0 p1 q1 (n + 1) (nb + 1) bk [b1, b2, b, b3] → SeesB w1 ⟨some ⟨b3, 0, none⟩, 8262, 8262⟩ xs' → xs'.length = 8262 → Own M 1 w1 ⟨some ⟨b3, 0, none⟩, 8262, 8262⟩ → J w1) : tail7b kind b6 w p0 q0 bk b1 b2 b R p1 q1 J s b3 off more := by
  unfold tail7b
  intro b7
  generalize hB : (⟨some ⟨b3, 0, none⟩, 8262, 8262⟩ : Sl) = buf at *
  have hbb : ∀ x ∈ buf.blk, x = b3 := by subst hB; simp [Sl.blk]
  have box : ∀ w1, Upd [] [b7, b6] w w1 → Play w0 w1 p0 q0 p1 q1 n nb bk ([b7, b6] ++ [b1, b2, b, b3]) := fun w1 u1 => pl.addL u1 (by simp) (fun x hx => u1.new hx)
  have only : ∀ w1, Upd [] [b7, b6] w w1 → J w1 := fun w1 u1 => hJ w1 xs ((pl.old u1).raise (by omega) (by omega)) (hbuf.old u1) hx (ho.old u1)
  refine bre' (fun h1 => brd (fun h2 => brd (fun h3 => fun w1 u1 => ?_) (fun h3 => fun w1 u1 => ?_)) (fun h2 => fun w1 u1 => ?_)) (fun h1 => fun w1 u1 => ?_)
  · refine (box w1 u1).c22 hnb fun w2 p2 k2 => ⟨_, rfl, kept_keeps k2 (by simp), brf rfl ?_⟩
    (repeat refine And.intro rfl ?_)
    refine hJ w2 xs ((p2.less (by simp)).raise (by omega) (by omega)) (sees_kept (hbuf.old u1) (fun x hx => k2 x (by simp [hbb x hx]))) hx (own_kept (ho.old u1) (fun x hx => k2 x (by simp [hbb x hx])))
  · (repeat refine And.intro rfl ?_)
    exact only w1 u1
  · (repeat refine And.intro rfl ?_)
    exact only w1 u1
  · have p1' := box w1 u1
    refine c13 (hs.old u1) hc fun s2 w2 u2 hs2 ho2 => ⟨_, rfl, kp u2, ?_⟩
    have nb6 := u1.new (b := b6) (by simp)
    have nb7 := u1.new (b := b7) (by simp)
    have lt0 := pl.lt b3 (by simp)
    have bne : ∀ x ∈ [b1, b2, b, b6, b7], x ≠ b3 := fun x hx' e => by
      subst e
      simp only [List.mem_cons, List.not_mem_nil, or_false] at hx'
      omega
    have g2 := ho2.blk
    have pl2 := p1'.addL u2 (by simp) g2
    have hl2 : (l.take 4096).length ≤ 4096 := by simp; omega
    have hb2 : Byt (l.take 4096) := hb.take _
    have hbuf2 := (hbuf.old u1).old u2
    have ho2' := (ho.old u1).old u2
    generalize l.take 4096 = l2 at *
    have hsz := hbuf2.len
    have lay : ∀ (w3 : World) (F : SV → World → Prop), Upd [] [] w2 w3 ∨ (∃ b8, Upd [] [b8] w2 w3) → (∀ w4, Upd buf.blk [] w3 w4 → SeesB w4 buf (l2 ++ (dmks 8262).drop l2.length) → Own M 1 w4 buf → SeesB w4 s2 l2 → SeesB w4 (buf.sub 1 0 l2.length buf.cap) l2 → F (.slice (buf.sub 1 0 l2.length buf.cap)) w4) → Ret Try.prog 25 [.slice buf, .slice s2] w3 F := fun w3 F hu hF => by
      have hbuf3 : SeesB w3 buf xs := hu.elim (fun u => hbuf2.old u) (fun ⟨_, u⟩ => hbuf2.old u)
      have ho3 : Own M 1 w3 buf := hu.elim (fun u => ho2'.old u) (fun ⟨_, u⟩ => ho2'.old u)
      have hs3 : SeesB w3 s2 l2 := hu.elim (fun u => hs2.old u) (fun ⟨_, u⟩ => hs2.old u)
      refine c25 hbuf3 ho3 hs3 (by omega) (by omega) fun w4 u4 h4 o4 => ?_
      rw [hx] at h4
      have le := o4.le
      have hs4 := hs3.upd u4 (fun x hx' hm => by
        have := hbb x hm
        subst this
        have := (pl2.lt x (by simp))
        have h5 := g2 x hx'
        have h6 := p1'.lt x (by simp)
        omega)
      refine hF w4 u4 h4 o4 hs4 ?_
      have := h4.subB (lo := 0) (hi := l2.length) (mx := buf.cap) (by omega) (by simp) (by omega)
      rwa [List.drop_zero, List.take_left] at this
    have sub4 : ∀ x ∈ (buf.sub 1 0 l2.length buf.cap).blk, x ∈ s2.blk ++ ([b7, b6] ++ [b1, b2, b, b3]) := fun x hx' => by
      have := hbb x (sub_blk x hx')
      subst this
      simp
    have capS : (buf.sub 1 0 l2.length buf.cap).len ≤ (buf.sub 1 0 l2.length buf.cap).cap := by
      have := ho2'.le
      simp [Sl.sub]; omega
    have bufL : ∀ x ∈ buf.blk, x ∈ s2.blk ++ ([b7, b6] ++ [b1, b2, b, b3]) := fun x hx' => by
      have := hbb x hx'
      subst this
      simp
    have done : ∀ w5, ∀ L5, Play w0 w5 p0 q0 p1 q1 (n + 1) nb bk (L5 ++ (s2.blk ++ ([b7, b6] ++ [b1, b2, b, b3]))) → SeesB w5 buf (l2 ++ (dmks 8262).drop l2.length) → Own M 1 w5 buf → J w5 := fun w5 L5 p5 h5 o5 => hJ w5 _ ((p5.less (fun x hx' => by
      refine List.mem_append_right _ (List.mem_append_right _ ?_)
      exact List.mem_append_right _ hx')).raise (by omega) (by omega)) h5 (by simp [dmks_len]; omega) o5
    refine ⟨[], by simp, ?_, ?_⟩
    · intro w3 u3
      refine lay w3 _ (.inl u3) fun w4 u4 h4 o4 hs4 hsub => ?_
      have p3 := pl2.old u3
      have p4 := p3.upd u4 (fun x hx' => .inr (bufL x hx'))
      have inL : ∀ x ∈ [b1, b2, b, b6, b7], x ∈ s2.blk ++ ([b7, b6] ++ [b1, b2, b, b3]) := by simp
      have kb : Keeps [b1, b2, b, b6, b7] w3 w4 := kpm u4 (fun x hx' => p3.lt x (inL x hx')) (fun x hx' hm => bne x hx' (hbb x hm))
      refine ⟨_, rfl, kb, (fun x hx' => by cases hx'), ?_, fun b8 => ⟨(fun x hx' => by cases hx'), fun w5 u5 => ?_⟩⟩
      · refine p4.c12 hsub capS hb2 sub4 fun S w5 h5 k5 => ⟨_, _, _, _, rfl, kept_keeps k5 (by simp), fun b9 => ⟨(fun x hx' => by cases hx'), fun w6 u6 => ?_⟩⟩
        have hs6 := (sees_kept hs4 (fun x hx' => k5 x (by simp [hx']))).old u6
        have h6 := (sees_kept h4 (fun x hx' => k5 x (bufL x hx'))).old u6
        have o6 := (own_kept o4 (fun x hx' => k5 x (bufL x hx'))).old u6
        have hh6 := h5.addL (L2 := [b9]) u6 (by simp) (fun x hx' => u6.new hx')
        refine fin7 (Ls := [b1, b2, b, b6, b7, b9]) hh6 h6 o6 hs6 hb2 (by omega) (by omega) (by simp) (fun x hx' => by simp [hx']) (fun x hx' => List.mem_append_right _ (bufL x hx')) hn fun b10 w7 p7 h7 o7 => ?_
        (repeat refine And.intro rfl ?_)
        exact done w7 [b9] p7 h7 o7
      · have p5 := p4.addL (L2 := [b8]) u5 (by simp) (fun x hx' => u5.new hx')
        have n5 := u5.new (b := b8) (by simp)
        refine p5.c12 (hsub.old u5) capS hb2 (fun x hx' => List.mem_append_right _ (sub4 x hx')) fun S w6 h6 k6 => ⟨_, _, _, _, rfl, kept_keeps k6 (by simp), fun w7 u7 => ?_⟩
        have b8n : ∀ x, x ∈ s2.blk ∨ x ∈ buf.blk → x ∉ [b8] := fun x hx' hm => by
          rw [List.mem_singleton] at hm
          rcases hx' with q | q
          · have := p4.lt x (by simp [q]); omega
          · have := p4.lt x (bufL x q); omega
        have hs7 := (sees_kept (hs4.old u5) (fun x hx' => k6 x (by simp [hx']))).upd u7 (fun x hx' => b8n x (.inl hx'))
        have h7 := (sees_kept (h4.old u5) (fun x hx' => k6 x (List.mem_append_right _ (bufL x hx')))).upd u7 (fun x hx' => b8n x (.inr hx'))
        have o7 := (own_kept (o4.old u5) (fun x hx' => k6 x (List.mem_append_right _ (bufL x hx')))).upd u7 (fun x hx' => b8n x (.inr hx'))
        have hh7 := h6.upd u7 (fun x hx' => .inr (by rw [List.mem_singleton] at hx'; simp [hx']))
        refine fin7 (Ls := [b1, b2, b, b6, b7, b8]) hh7 h7 o7 hs7 hb2 (by omega) (by omega) (by simp) (fun x hx' => by simp [hx']) (fun x hx' => List.mem_append_right _ (bufL x hx')) hn fun b10 w8 p8 h8 o8 => ?_
        (repeat refine And.intro rfl ?_)
        exact done w8 [b8] p8 h8 o8
    · intro b8
      refine ⟨(fun x hx' => by cases hx'), fun w3 u3 => ?_⟩
      have p3 := pl2.addL (L2 := [b8]) u3 (by simp) (fun x hx' => u3.new hx')
      have n3 := u3.new (b := b8) (by simp)
      refine lay w3 _ (.inr ⟨b8, u3⟩) fun w4 u4 h4 o4 hs4 hsub => ?_
      have p4 := p3.upd u4 (fun x hx' => .inr (List.mem_append_right _ (bufL x hx')))
      have b8n : ∀ x, x ∈ s2.blk ∨ x ∈ buf.blk → x ∉ [b8] := fun x hx' hm => by
        rw [List.mem_singleton] at hm
        rcases hx' with q | q
        · have := pl2.lt x (by simp [q]); omega
        · have := pl2.lt x (bufL x q); omega
      have inL : ∀ x ∈ [b1, b2, b, b6, b7, b8], x ∈ [b8] ++ (s2.blk ++ ([b7, b6] ++ [b1, b2, b, b3])) := by simp
      have kb : Keeps [b1, b2, b, b6, b7, b8] w3 w4 := kpm u4 (fun x hx' => p3.lt x (inL x hx')) (fun x hx' hm => by
        have e := hbb x hm
        simp only [List.mem_cons, List.not_mem_nil, or_false] at hx'
        rcases hx' with q | q | q | q | q | q
        · exact bne x (by simp [q]) e
        · exact bne x (by simp [q]) e
        · exact bne x (by simp [q]) e
        · exact bne x (by simp [q]) e
        · exact bne x (by simp [q]) e
        · exact b8n x (.inr hm) (by simp [q]))
      refine ⟨_, rfl, kb, (fun x hx' => by cases hx'), ?_⟩
      refine p4.c12 hsub capS hb2 (fun x hx' => List.mem_append_right _ (sub4 x hx')) fun S w6 h6 k6 => ⟨_, _, _, _, rfl, kept_keeps k6 (by simp), fun w7 u7 => ?_⟩
      have hs7 := (sees_kept hs4 (fun x hx' => k6 x (by simp [hx']))).upd u7 (fun x hx' => b8n x (.inl hx'))
      have h7 := (sees_kept h4 (fun x hx' => k6 x (List.mem_append_right _ (bufL x hx')))).upd u7 (fun x hx' => b8n x (.inr hx'))
      have o7 := (own_kept o4 (fun x hx' => k6 x (List.mem_append_right _ (bufL x hx')))).upd u7 (fun x hx' => b8n x (.inr hx'))
      have hh7 := h6.upd u7 (fun x hx' => .inr (by rw [List.mem_singleton] at hx'; simp [hx']))
      refine fin7 (Ls := [b1, b2, b, b6, b7, b8]) hh7 h7 o7 hs7 hb2 (by omega) (by omega) (by simp) (fun x hx' => by simp [hx']) (fun x hx' => List.mem_append_right _ (bufL x hx')) hn fun b10 w8 p8 h8 o8 => ?_
      (repeat refine And.intro rfl ?_)
      exact done w8 [b8] p8 h8 o8
theorem PairAt.some_ {N : Nat} {p q : Option Addr} {bs : List Nat} (h : PairAt N w p q S n bs) : p.isNone = false := by
  obtain ⟨hp, hq, m, W, B, G, A, D, P, rfl, _⟩ := h
  rfl
theorem c20o {mx : Int} {o0 o1 : Option Addr} (k : ∀ p q w1, Upd [] [] w w1 → ((p = o0 ∧ q = o1) ∨ ∃ S bs, PairAt w.heap.size w1 p q S 0 bs) → R (.tuple [.struct [.ptr p, .ptr q], .bool true]) w1) : Ret Try.prog 20 [.int .i64 mx, .struct [.ptr o0, .ptr o1]] w R :=
  S11.c20 (fun _ w1 u1 => k _ _ w1 u1 (.inl ⟨rfl, rfl⟩)) (fun _ _ p q bs w1 u1 a1 => k p q w1 u1 (.inr ⟨_, bs, a1⟩))
set_option maxRecDepth 20000 in
theorem c7 {max : Int} {script : Sl} {ps : List (Int × Int × Int × Sl × Bool)} (hs : Sees cSt w script ps) (hps : ∀ p ∈ ps, StOk w p) : Ret Try.prog 7 [.int .i64 max, .slice script] w fun r w1 => r = .bool true ∧ Upd [] [] w w1 := by
  refine f7_of _ _ _ _ ?_
  unfold vc7
  have hsl := hs.len
  refine c20o fun p p' w1 u1 h1 => ⟨_, _, _, rfl, fun b1 => brf rfl fun w2 u2 => ?_⟩
  refine S11.c20 (fun q => by omega) fun _ _ p2 q2 bs2 w3 u3 a3 => ⟨_, _, _, rfl, kp u3, fun b2 J hJ => brf rfl (brf a3.some_ fun w4 u4 => ?_)⟩
  (repeat refine And.intro rfl ?_)
  refine hJ _ ?_
  clear hJ
  intro J2 hJ2
  have nb1 := u2.new (b := b1) (by simp)
  have nb2 := u4.new (b := b2) (by simp)
  have z1 := u1.size
  have z2 := u2.size
  have z3 := u3.size
  have z4 := u4.size
  have l3 := a3.lt
  have V4 := ((u1.then u2).then u3).then u4
  have main : ∀ (pA qA : Option Addr) (w5 : World) (SA SB : Hs) (bsA bsB : List Nat), w4.heap.size ≤ w5.heap.size → Upd [] [] w w5 → PairAt w.heap.size w5 pA qA SA 0 bsA → PairAt w.heap.size w5 p2 q2 SB 0 bsB → ((∀ x ∈ bsA, x ∉ bsB) ∨ (SA = SB ∧ bsA = bsB ∧ pA = p2 ∧ qA = q2)) → (∀ x ∈ [b1, b2], x ∉ bsA ∧ x ∉ bsB) → J2 pA qA w5 := by
    intro pA qA w5 SA SB bsA bsB z5 V5 aA aB dd hn
    refine hJ2 _ _ _ ?_
    clear hJ2
    intro b w6 u6 b3 w7 u7 hr7 b4 w8 u8 hr8 off8
    have nb := u6.new (b := b) (by simp)
    have nb3 := u7.new (b := b3) (by simp)
    have nb4 := u8.new (b := b4) (by simp)
    have z6 := u6.size; have z7 := u7.size; have z8 := u8.size
    have lA := aA.lt; have lB := aB.lt
    have V8 := ((V5.then u6).then u7).then u8
    have pl8 : Play w w8 pA qA p2 q2 0 0 b4 [b1, b2, b, b3] := ⟨SA, SB, bsA, bsB, [b4], [], ((aA.old u6).old u7).old u8, ((aB.old u6).old u7).old u8, book_new hr8 (by omega), dd, fun x hx => ⟨fun hm => by
      rw [List.mem_singleton] at hm
      subst hm
      rcases hx with q | q
      · have := lA _ q; omega
      · have := lB _ q; omega, by simp⟩, fun x hx => by
      simp only [List.mem_cons, List.not_mem_nil, or_false] at hx
      rcases hx with rfl | rfl | rfl | rfl
      · exact ⟨by omega, by omega, (hn _ (by simp)).1, (hn _ (by simp)).2, fun hm => by rw [List.mem_singleton] at hm; omega, by simp⟩
      · exact ⟨by omega, by omega, (hn _ (by simp)).1, (hn _ (by simp)).2, fun hm => by rw [List.mem_singleton] at hm; omega, by simp⟩
      · exact ⟨by omega, by omega, fun q => by have := lA _ q; omega, fun q => by have := lB _ q; omega, fun hm => by rw [List.mem_singleton] at hm; omega, by simp⟩
      · exact ⟨by omega, by omega, fun q => by have := lA _ q; omega, fun q => by have := lB _ q; omega, fun hm => by rw [List.mem_singleton] at hm; omega, by simp⟩, V8⟩
    rw [zeros_cells] at hr7
    have hbuf : SeesB w8 ⟨some ⟨b3, 0, none⟩, 8262, 8262⟩ (List.replicate 8262 0) := (sees_row hr7 _ rfl (by rw [List.length_replicate])).old u8
    have hown : Own w.heap.size 1 w8 ⟨some ⟨b3, 0, none⟩, 8262, 8262⟩ := (own_row hr7 (by omega) (by rw [Cod.cells_length, List.length_replicate]; rfl) (Nat.le_refl _)).old u8
    have xl : (List.replicate 8262 (0 : Int)).length = 8262 := List.length_replicate
    generalize List.replicate 8262 (0 : Int) = xs0 at hbuf xl
    refine ⟨fun i w' => ∃ (t : Nat) (xs : List Int), i = t ∧ t ≤ 120 ∧ Play w w' pA qA p2 q2 t t b4 [b1, b2, b, b3] ∧ SeesB w' ⟨some ⟨b3, 0, none⟩, 8262, 8262⟩ xs ∧ xs.length = 8262 ∧ Own w.heap.size 1 w' ⟨some ⟨b3, 0, none⟩, 8262, 8262⟩, fun i _ => (120 - i).toNat, ⟨0, xs0, rfl, by omega, pl8, hbuf, xl, hown⟩, ?_⟩
    clear pl8 hbuf hown
    rintro i w9 ⟨t, xs, rfl, ht, pl, hbuf, hx, ho⟩
    have fin : (Ret Try.prog 22 [.struct [.ptr pA, .ptr qA], .int .i64 4, .ptr (some ⟨b4, 0, none⟩)] w9 fun r w10 => ∃ b_5 : Bool, r = .bool b_5 ∧ Keeps [b1, b2, b] w9 w10 ∧ Br b_5 (Ret Try.prog 22 [.struct [.ptr pA, .ptr qA], .int .i64 2, .ptr (some ⟨b4, 0, none⟩)] w10 fun r w11 => ∃ b_6 : Bool, r = .bool b_6 ∧ Keeps [b1, b2, b] w10 w11 ∧ Br b_6 (Ret Try.prog 22 [.struct [.ptr p2, .ptr q2], .int .i64 4, .ptr (some ⟨b4, 0, none⟩)] w11 fun r w12 => ∃ b_7 : Bool, r = .bool b_7 ∧ Keeps [b1, b2, b] w11 w12 ∧ Br b_7 (Ret Try.prog 23 [.ptr (some ⟨b4, 0, none⟩)] w12 fun r w13 => ∃ b_8 : Bool, r = .bool b_8 ∧ Keeps [b1, b2, b] w12 w13 ∧ Br b_8 (SV.bool (!Option.isNone p2) = .bool true ∧ Upd [] [] w w13) (SV.bool false = .bool true ∧ Upd [] [] w w13)) (SV.bool false = .bool true ∧ Upd [] [] w w12)) (SV.bool false = .bool true ∧ Upd [] [] w w11)) (SV.bool false = .bool true ∧ Upd [] [] w w10)) := by
      refine pl.c22 (by omega) fun w10 pl10 k10 => ⟨_, rfl, kept_keeps k10 (by simp), brt rfl ?_⟩
      refine pl10.c22 (by omega) fun w11 pl11 k11 => ⟨_, rfl, kept_keeps k11 (by simp), brt rfl ?_⟩
      refine pl11.swap.c22 (by omega) fun w12 pl12 k12 => ⟨_, rfl, kept_keeps k12 (by simp), brt rfl ?_⟩
      refine pl12.c23 (by omega) fun w13 u13 pl13 => ⟨_, rfl, kp u13, brt rfl ⟨?_, pl13.u⟩⟩
      rw [aB.some_]; rfl
    intro J3 hJ3
    refine brd (fun hlt => brd (fun h120 => ?_) (fun _ => fin)) (fun _ => fin)
    clear fin
    (repeat refine And.intro rfl ?_)
    refine hJ3 _ ?_
    clear hJ3
    intro J4 hJ4
    have ht2 : t < ps.length := by omega
    have hs9 := hs.old pl.u
    have e0 := hs9.elem ht2 0 (by simp [cSt])
    have e1 := hs9.elem ht2 1 (by simp [cSt])
    have e2 := hs9.elem ht2 2 (by simp [cSt])
    have e3 := hs9.elem ht2 3 (by simp [cSt])
    have e4 := hs9.elem ht2 4 (by simp [cSt])
    rw [add_zero] at e0
    obtain ⟨l, hl, hb, hc⟩ := hps _ (List.getElem_mem ht2)
    rw [Int.toNat_natCast]
    have ei : iand .i64 ps[t].2.1 1 = ps[t].2.1 % 2 := by
      have := iand_mask (a := ps[t].2.1) 1 (by omega)
      simpa using this
    have next : ∀ w' xs', Play w w' pA qA p2 q2 (t + 1) (t + 1) b4 [b1, b2, b, b3] → SeesB w' ⟨some ⟨b3, 0, none⟩, 8262, 8262⟩ xs' → xs'.length = 8262 → Own w.heap.size 1 w' ⟨some ⟨b3, 0, none⟩, 8262, 8262⟩ → J4 w' := fun w' xs' pl' hb' hx' ho' => by
      refine hJ4 _ ?_
      (repeat refine And.intro rfl ?_)
      exact ⟨⟨t + 1, xs', wr_succ (by omega), by omega, pl', hb', hx', ho'⟩, by rw [wr_succ (q := t) (by omega)]; (try dsimp only); omega⟩
    refine needIx (by omega) (by omega) (hs9.isSome (by decide) (by omega)) ⟨_, e0, _, e1, _, e2, _, e3, _, e4, fun b6 => ?_⟩
    dsimp only [cSt, List.getElem_cons_zero, List.getElem_cons_succ] at *
    rw [ei]
    refine need (by simp; omega) (brd (fun v0 => ?_) (fun v0 => brd (fun v1 => ?_) (fun _ => trivial)))
    · exact t7a pl hbuf hx ho (hl.old pl.u) hb hc (by omega) (by omega) (by omega) next
    · exact t7b pl.swap hbuf hx ho (hl.old pl.u) hb hc (by omega) (by omega) (by omega) (fun w' xs' pl' => next w' xs' pl'.swap)
  clear hJ2
  rcases h1 with ⟨rfl, rfl⟩ | ⟨S1, bs, a1⟩
  · refine brt rfl fun w5 u5 => ?_
    (repeat refine And.intro rfl ?_)
    have z5 := u5.size
    have a5 := ((a3.mono (N0 := w.heap.size) (by omega)).old u4).upd u5 (fun x hx hm => by rw [List.mem_singleton] at hm; have := l3 x hx; omega)
    refine main p2 q2 w5 _ _ bs2 bs2 z5 (V4.step0 u5 (fun x hx => by rw [List.mem_singleton] at hx; omega)) a5 a5 (.inr ⟨rfl, rfl, rfl, rfl⟩) (fun x hx => ?_)
    have : x ∉ bs2 := fun hm => by
      have := l3 x hm
      simp only [List.mem_cons, List.not_mem_nil, or_false] at hx
      omega
    exact ⟨this, this⟩
  · have l1 := a1.lt
    refine brf a1.some_ ?_
    (repeat refine And.intro rfl ?_)
    refine main p p' w4 _ _ bs bs2 (Nat.le_refl _) V4 (((a1.old u2).old u3).old u4) ((a3.mono (N0 := w.heap.size) (by omega)).old u4) (.inl fun x hx hm => by have := l1 x hx; have := l3 x hm; omega) (fun x hx => ⟨fun hm => ?_, fun hm => ?_⟩)
    · have := l1 x hm
      simp only [List.mem_cons, List.not_mem_nil, or_false] at hx
      omega
    · have := l3 x hm
      simp only [List.mem_cons, List.not_mem_nil, or_false] at hx
      omega
end
end Go.Vc.S11
