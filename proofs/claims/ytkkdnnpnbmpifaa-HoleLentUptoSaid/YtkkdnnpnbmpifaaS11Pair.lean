import Derived.Test.YtkkdnnpnbmpifaaS11TxtM
import Derived.Test.YtkkdnnpnbmpifaaS11C26
import Derived.Test.YtkkdnnpnbmpifaaS11Book
import Derived.Test.YtkkdnnpnbmpifaaS11L3
open Go Go.Vc Go.Proofs
set_option linter.unusedVariables false
set_option linter.unusedSimpArgs false
set_option autoImplicit false
namespace Go.Vc.S11
theorem hol_mono {N N0 h m : Nat} {w : World} {S : Hs} {B G : Sl} (H : Hol N w h S B G m) (hN : N0 ≤ N) : Hol N0 w h S B G m :=
  ⟨H.box, H.buf, H.bo.mono hN, H.gaps, H.go.mono hN, H.map, H.a1, H.a2, H.a3, ⟨by have := H.base.1; omega, by have := H.base.2.1; omega, by have := H.base.2.2; omega⟩⟩
theorem whl_mono {N N0 h : Nat} {w : World} {W : Wh} {A D P : Sl} (H : Whl N w h W A D P) (hN : N0 ≤ N) : Whl N0 w h W A D P :=
  ⟨H.box, H.has, H.ho.mono hN, H.data, H.d_o.mono hN, H.pcs, H.po.mono hN, H.a1, H.a2, ⟨by have := H.base.1; omega, by have := H.base.2; omega⟩⟩
/-- what is answered, whether the piece is refused or not -/
def stepS (S : Hs) (off : Int) (l : List Int) (more : Bool) : Hs := if errS S off l.length more = 0 then putS S off l more else S
def stepW (S : Hs) (W : Wh) (off : Int) (l : List Int) (more : Bool) : Wh := if errS S off l.length more = 0 then putW W off l more else W
def fitN (S : Hs) (off : Int) (l : List Int) (more : Bool) : Int := if errS S off l.length more = 0 then newN off (off + l.length) S.gaps else 0
def fitO (S : Hs) (off : Int) (l : List Int) (more : Bool) : Int := if errS S off l.length more = 0 then l.length - newN off (off + l.length) S.gaps else 0
def fitB (S : Hs) (off : Int) (l : List Int) (more : Bool) : Bool := if errS S off l.length more = 0 then sameS S off l more else false
theorem Rl.step {S : Hs} {W : Wh} (r : Rl S W) (off : Int) {l : List Int} (more : Bool) (hb : Byt l) : Rl (stepS S off l more) (stepW S W off l more) := by
  unfold stepS stepW
  split
  · rename_i he; exact r.put he hb
  · exact r
section
variable {w w1 : World} {R : SV → World → Prop} {N h m n : Nat} {S : Hs} {W : Wh} {B G A D P : Sl}
theorem c12' {off : Int} {data : Sl} {l : List Int} {more : Bool} (H : Hol N w h S B G m) (O : OkS S) (hd : SeesB w data l) (hcap : data.len ≤ data.cap) (hb : Byt l) (hdis : ∀ x ∈ data.blk, x < w.heap.size ∧ x ∉ hblk h B G m)
    (k : ∀ B' G' w1, Upd (hblk h B G m) [] w w1 → Hol N w1 h (stepS S off l more) B' G' m → (∀ x ∈ hblk h B' G' m, x ∈ hblk h B G m ∨ w.heap.size ≤ x) →
      R (.tuple [.struct [.int .i64 (fitN S off l more), .int .i64 (fitO S off l more), .bool (fitB S off l more)], .int .i64 (errS S off l.length more)]) w1) :
    Ret Try.prog 12 [.ptr (some ⟨h, 0, none⟩), .int .i64 off, .slice data, .bool more] w R := by
  refine c12 H O hd hcap hb hdis (fun w1 u1 hne => ?_) (fun B' G' w1 he V1 H1 hn => ?_)
  · have := k B G w1 (u1.wide (by simp)) (by unfold stepS; rw [if_neg hne]; exact H.old u1) (fun x hx => .inl hx)
    unfold fitN fitO fitB at this
    rw [if_neg hne, if_neg hne, if_neg hne] at this
    exact this
  · have := k B' G' w1 V1 (by unfold stepS; rw [if_pos he]; exact H1) hn
    unfold fitN fitO fitB at this
    rw [if_pos he, if_pos he, if_pos he, he] at this
    exact this
theorem c26' {off : Int} {data : Sl} {l : List Int} {more : Bool} (r : Rl S W) (H : Whl N w h W A D P) (hd : SeesB w data l) (hb : Byt l) (hll : l.length < 9223372036854775807) (hpl : W.pcs.length ≤ 1099511627776) (hdis : ∀ x ∈ data.blk, x < w.heap.size ∧ x ∉ wblk h A D P)
    (k : ∀ A' D' P' w1, Upd (wblk h A D P) [] w w1 → Whl N w1 h (stepW S W off l more) A' D' P' → (∀ x ∈ wblk h A' D' P', x ∈ wblk h A D P ∨ w.heap.size ≤ x) →
      R (.tuple [.struct [.int .i64 (fitN S off l more), .int .i64 (fitO S off l more), .bool (fitB S off l more)], .int .i64 (errS S off l.length more)]) w1) :
    Ret Try.prog 26 [.ptr (some ⟨h, 0, none⟩), .int .i64 off, .slice data, .bool more] w R := by
  refine c26 r H hd hb hll hpl hdis (fun w1 u1 hne => ?_) (fun A' D' P' w1 he V1 H1 hn => ?_)
  · have := k A D P w1 (u1.wide (by simp)) (by unfold stepW; rw [if_neg hne]; exact H.old u1) (fun x hx => .inl hx)
    unfold fitN fitO fitB at this
    rw [if_neg hne, if_neg hne, if_neg hne] at this
    exact this
  · have := k A' D' P' w1 V1 (by unfold stepW; rw [if_pos he]; exact H1) hn
    unfold fitN fitO fitB at this
    rw [if_pos he, if_pos he, if_pos he, he] at this
    exact this
/-- the program's Holes and the document's, beside one another; n: at most so many pieces; bs: their blocks -/
def PairAt (N : Nat) (w : World) (p q : Option Addr) (S : Hs) (n : Nat) (bs : List Nat) : Prop := ∃ hp hq m W B G A D P, p = some ⟨hp, 0, none⟩ ∧ q = some ⟨hq, 0, none⟩ ∧ Rl S W ∧ Hol N w hp S B G m ∧ Whl N w hq W A D P ∧ (∀ x ∈ hblk hp B G m, x ∉ wblk hq A D P) ∧ W.pcs.length ≤ n ∧ bs = hblk hp B G m ++ wblk hq A D P
variable {p q : Option Addr} {bs : List Nat}
theorem PairAt.upd {ms ns : List Nat} (Q : PairAt N w p q S n bs) (u : Upd ms ns w w1) (h1 : ∀ x ∈ bs, x ∉ ms) : PairAt N w1 p q S n bs := by
  obtain ⟨hp, hq, m, W, B, G, A, D, P, rfl, rfl, r, H, V, d, c, rfl⟩ := Q
  exact ⟨hp, hq, m, W, B, G, A, D, P, rfl, rfl, r, H.upd u (fun x hx => h1 x (List.mem_append_left _ hx)), V.upd u (fun x hx => h1 x (List.mem_append_right _ hx)), d, c, rfl⟩
theorem PairAt.old {ns : List Nat} (Q : PairAt N w p q S n bs) (u : Upd [] ns w w1) : PairAt N w1 p q S n bs := Q.upd u (by simp)
theorem PairAt.mono {N0 : Nat} (Q : PairAt N w p q S n bs) (hN : N0 ≤ N) : PairAt N0 w p q S n bs := by
  obtain ⟨hp, hq, m, W, B, G, A, D, P, rfl, rfl, r, H, V, d, c, rfl⟩ := Q
  exact ⟨hp, hq, m, W, B, G, A, D, P, rfl, rfl, r, hol_mono H hN, whl_mono V hN, d, c, rfl⟩
theorem PairAt.more {n' : Nat} (Q : PairAt N w p q S n bs) (hn : n ≤ n') : PairAt N w p q S n' bs := by
  obtain ⟨hp, hq, m, W, B, G, A, D, P, rfl, rfl, r, H, V, d, c, rfl⟩ := Q
  exact ⟨hp, hq, m, W, B, G, A, D, P, rfl, rfl, r, H, V, d, by omega, rfl⟩
theorem PairAt.lt (Q : PairAt N w p q S n bs) : ∀ x ∈ bs, N ≤ x ∧ x < w.heap.size := by
  obtain ⟨hp, hq, m, W, B, G, A, D, P, rfl, rfl, r, H, V, d, c, rfl⟩ := Q
  intro x hx
  rcases List.mem_append.1 hx with hx | hx
  · exact H.lt x hx
  · exact V.lt x hx
/-- a new pair, or the old one -/
theorem c20 {mx : Int} {o0 o1 : Option Addr} (k0 : (mx < 1 ∨ 65535 < mx) → ∀ w1, Upd [] [] w w1 → R (.tuple [.struct [.ptr o0, .ptr o1], .bool true]) w1)
    (k : 1 ≤ mx → mx ≤ 65535 → ∀ p q bs w1, Upd [] [] w w1 → PairAt w.heap.size w1 p q ⟨mx, [], [(0, mx)], -1, 0, []⟩ 0 bs → R (.tuple [.struct [.ptr p, .ptr q], .bool true]) w1) : Ret Try.prog 20 [.int .i64 mx, .struct [.ptr o0, .ptr o1]] w R := by
  refine f20_of _ _ _ _ _ ?_
  unfold vc20
  intro b b1 w1 u1
  have n0 := u1.new (b := b) (by simp)
  have n1 := u1.new (b := b1) (by simp)
  have z1 := u1.size
  have kk : ∀ x ∈ [b, b1], x < w1.heap.size := fun x hx => by simp at hx; rcases hx with rfl | rfl; exact n0.2; exact n1.2
  by_cases hm : mx < 1 ∨ 65535 < mx
  · refine c10 (fun _ => ?_) (fun a1 a2 => by omega)
    refine ⟨_, _, rfl, kp (Upd.refl _), ?_⟩
    refine c35 (fun _ => ?_) (fun a1 a2 => by omega)
    refine ⟨_, _, rfl, kp (Upd.refl _), ?_⟩
    intro J hJ
    refine brf (by simp) (brf (by simp) ?_)
    (repeat refine And.intro rfl ?_)
    refine hJ _ _ _ (brt (by simp) fun w2 u2 => k0 hm w2 (u1.step0 u2 (fun x hx => by rw [List.mem_singleton] at hx; omega)))
  · refine c10 (fun q => absurd q hm) fun a1 a2 h m G w2 u2 H2 => ⟨_, _, rfl, kp u2, ?_⟩
    refine c35 (fun q => absurd q hm) fun _ _ h' w3 u3 H3 => ⟨_, _, rfl, kp u3, ?_⟩
    have z2 := u2.size; have z3 := u3.size
    intro J hJ
    refine brf (by simp) (brf (by simp) ?_)
    (repeat refine And.intro rfl ?_)
    refine hJ _ _ _ (brf (by simp) fun w4 u4 => ?_)
    have lt2 := H2.lt
    have lt3 := H3.lt
    have H4 := (H2.old u3).upd u4 (fun x hx hm => by rw [List.mem_singleton] at hm; have := lt2 x hx; omega)
    have V4 := H3.upd u4 (fun x hx hm => by rw [List.mem_singleton] at hm; have := lt3 x hx; omega)
    exact k a1 a2 _ _ _ w4 (((u1.forget.then u2).then u3).step0 u4 (fun x hx => by rw [List.mem_singleton] at hx; omega)) ⟨h, h', m, _, _, _, _, _, _, rfl, rfl, Rl.new a1 a2, hol_mono H4 (by omega), whl_mono V4 (by omega), fun x hx hm => by have := lt2 x hx; have := lt3 x hm; omega, by simp, rfl⟩
set_option maxRecDepth 20000 in
theorem t21 {M b b3 : Nat} {r data : Sl} {p3 p4 : Option Addr} {i5 i6 i12 : Int} {v7 : Bool} {l : List Int} (hr : SeesB w r (l ++ [201, 202, 203])) (ho : Own M 1 w r) (hd : SeesB w data l) (hll : l.length ≤ 1000000)
    (hbl : ∀ x ∈ [b, b3], x ∉ r.blk ∧ x < w.heap.size) (k : ∀ w1, Upd r.blk [] w w1 → R (.bool true) w1) :
    tail21 r b b3 p3 p4 i5 i6 v7 i5 i6 v7 R i12 i12 w data := by
  unfold tail21
  intro b5 J hJ
  have hrl := hr.len
  have hdl := hd.len
  have hlen : (l ++ [201, 202, 203]).length = l.length + 3 := by simp
  have le := ho.le
  refine brf (by simp) (brf (by simp) (needIxLe (by omega) (by omega) fun w1 u1 => ?_))
  have n5 := u1.new (b := b5) (by simp)
  have z1 := u1.size
  have hr1 := hr.old u1
  have hs : SeesB w1 (r.sub 1 0 (Int.toNat (data.len : Int)) r.cap) l := by
    have := hr1.subB (lo := 0) (hi := data.len) (mx := r.cap) (by omega) (by omega) (by omega)
    rw [List.drop_zero, hdl, List.take_left] at this
    rw [Int.toNat_natCast, hdl]
    exact this
  refine cSameT hs (hd.old u1) (by omega) fun w2 u2 => ⟨_, rfl, kp u2, brf rfl ?_⟩
  have hr2 := hr1.old u2
  have ho2 := (ho.old u1).old u2
  have e2 : wr .i64 ((data.len : Int) + 2) = ((data.len + 2 : Nat) : Int) := by rw [wr_i64 (by omega) (by omega)]; omega
  have g0 : bt (l ++ [201, 202, 203]) ((data.len : Nat) : Int) = 201 := by rw [bt_nat (by omega)]; simp [hdl]
  have g2 : bt (l ++ [201, 202, 203]) ((data.len + 2 : Nat) : Int) = 203 := by rw [bt_nat (by omega)]; simp [hdl]
  refine needB hr2 (by omega) (by omega) ⟨_, hr2.byte (by omega) (by omega), brf (by rw [g0]; simp) ?_⟩
  rw [e2]
  refine needB hr2 (by omega) (by omega) ⟨_, hr2.byte (by omega) (by omega), brf (by rw [g2]; simp) ?_⟩
  (repeat refine And.intro rfl ?_)
  refine hJ _ ?_
  clear hJ
  refine ⟨fun i w' => Upd r.blk [] w2 w' ∧ ∃ (t : Nat) (xs : List Int), i = t ∧ t ≤ r.len ∧ xs.length = r.len ∧ SeesB w' r xs ∧ Own M 1 w' r, fun i _ => (r.len - i).toNat, ⟨(Upd.refl w2).wide (by simp), 0, _, rfl, by omega, hrl.symm, hr2, ho2⟩, ?_⟩
  rintro i w3 ⟨u3, t, xs, rfl, ht, hxl, h3, o3⟩
  refine brd (fun hlt => ?_) (fun hge => ?_)
  · refine needB h3 (by omega) (by omega) ⟨_, h3.byte (by omega) (by omega), needB h3 (by omega) (by omega) ?_⟩
    rw [Int.toNat_natCast]
    refine own_set (c := cU8) (x := ixor .u8 (bt xs (t : Int)) 255) h3 o3 (by decide) (by omega) rfl (fun x hx hm => ?_) fun w4 h4 o4 u4 => ?_
    · have hlt2 := (ho.blk x hx).2
      simp only [List.mem_cons, List.not_mem_nil, or_false] at hm
      rcases hm with q | q | q
      · exact (hbl x (by simp [q])).1 hx
      · exact (hbl x (by simp [q])).1 hx
      · omega
    · (repeat refine And.intro rfl ?_)
      exact ⟨⟨u3.step u4 (fun x hx => .inr hx), t + 1, _, wr_succ (by omega), by omega, by simp [hxl], h4, o4⟩, by rw [wr_succ (by omega)]; (try dsimp only); omega⟩
  · exact k w3 (((u1.wide (m' := r.blk) (by simp)).step u2 (by simp)).step u3 (fun x hx => .inr hx))
set_option maxRecDepth 20000 in
theorem c21 {off : Int} {data : Sl} {l : List Int} {more : Bool} (Q : PairAt N w p q S n bs) (hd : SeesB w data l) (hb : Byt l) (hll : l.length ≤ 1000000) (hn : n ≤ 1000000) (hdis : ∀ x ∈ data.blk, x < w.heap.size ∧ x ∉ bs)
    (k : ∀ bs' w1, Upd bs [] w w1 → PairAt N w1 p q (stepS S off l more) (n + 1) bs' → (∀ x ∈ bs', x ∈ bs ∨ w.heap.size ≤ x) → R (.bool true) w1) : Ret Try.prog 21 [.struct [.ptr p, .ptr q], .int .i64 off, .slice data, .bool more] w R := by
  obtain ⟨hp, hq, m, W, B, G, A, D, P, rfl, rfl, r, H, V, d, c, rfl⟩ := Q
  refine f21_of _ _ _ _ _ _ _ ?_
  unfold vc21
  have hdl := hd.len
  intro b w1 u1
  have nb := u1.new (b := b) (by simp)
  have z1 := u1.size
  have ltH := H.lt
  have ltV := V.lt
  refine append_own (c := cU8) (l := []) (Sees.nil _ _ _ _) (Own.none w1.heap.size _ _) (hd.old u1) (Nat.le_refl _) (by simp [Sl.blk]) (by decide) (by simp; omega) fun r2 w2 hr2 ho2 u2 nr2 => ?_
  have v2 : Upd [] [] w1 w2 := by simpa [Sl.blk] using u2
  rw [List.nil_append] at hr2
  have z2 := v2.size
  intro b1 w3 u3 hr3
  have z3 := u3.size
  have g2 := ho2.blk
  refine append_own (c := cU8) (new := [201, 202, 203]) (hr2.old u3) (ho2.old u3) (sees_row hr3 _ rfl rfl) (by omega) (fun x hx hm => by rw [List.mem_singleton] at hm; have := g2 x hx; omega) (by decide) (by simp; omega) fun r4 w4 hr4 ho4 u4 nr4 => ?_
  have g4 := ho4.blk
  have z4 := u4.size
  have V4 : Upd [] [] w w4 := ((u1.then v2).then u3).step0 u4 (fun x hx => by have := g2 x hx; omega)
  have hr4l := hr4.len
  have hlen : (l ++ [201, 202, 203]).length = l.length + 3 := by simp
  have le4 := ho4.le
  have H4 := H.old V4
  have W4 := V.old V4
  have hd4 := hd.old V4
  refine ⟨[], by simp, needIxLe (by omega) (by omega) ?_⟩
  have hs : ∀ w', SeesB w' r4 (l ++ [201, 202, 203]) → SeesB w' (r4.sub 1 0 (Int.toNat (data.len : Int)) r4.cap) l := fun w' h => by
    have := h.subB (lo := 0) (hi := data.len) (mx := r4.cap) (by omega) (by omega) (by omega)
    rw [List.drop_zero, hdl, List.take_left] at this
    rw [Int.toNat_natCast, hdl]
    exact this
  have main : ∀ (w5 : World) (ns : List Nat), Upd [] ns w4 w5 → ∀ (F : SV → World → Prop), (∀ B6 G6 w6, Upd (hblk hp B G m) [] w5 w6 → Hol N w6 hp (stepS S off l more) B6 G6 m → (∀ x ∈ hblk hp B6 G6 m, x ∈ hblk hp B G m ∨ w5.heap.size ≤ x) → F (.tuple [.struct [.int .i64 (fitN S off l more), .int .i64 (fitO S off l more), .bool (fitB S off l more)], .int .i64 (errS S off l.length more)]) w6) → Ret Try.prog 12 [.ptr (some ⟨hp, 0, none⟩), .int .i64 off, .slice (r4.sub 1 0 (Int.toNat (data.len : Int)) r4.cap), .bool more] w5 F := fun w5 ns u5 F hF => by
    have z5 := u5.size
    refine c12' (H4.old u5) r.g.ok (hs w5 (hr4.old u5)) (by simp [Sl.sub]; omega) hb (fun x hx => ?_) hF
    have := g4 x (sub_blk x hx)
    exact ⟨by omega, fun hm => by have := ltH x hm; omega⟩
  -- behind the first Put: the document's, and what is looked at
  have rest : ∀ (w5 : World) (ns : List Nat), Upd [] ns w4 w5 → ∀ B6 G6 w6, Upd (hblk hp B G m) [] w5 w6 → Hol N w6 hp (stepS S off l more) B6 G6 m → (∀ x ∈ hblk hp B6 G6 m, x ∈ hblk hp B G m ∨ w5.heap.size ≤ x) →
      ∀ (w7 : World) (ms7 ns7 : List Nat), Upd ms7 ns7 w6 w7 → (∀ x ∈ ms7, w4.heap.size ≤ x ∧ x < w5.heap.size) → ∀ b3, w4.heap.size ≤ b3 → b3 < w7.heap.size → b3 ∉ hblk hp B6 G6 m →
      Ret Try.prog 26 [.ptr (some ⟨hq, 0, none⟩), .int .i64 off, .slice data, .bool more] w7 fun r_2 w8 => ∃ (n3 n4 : Int) (b4 : Bool) (n5 : Int), r_2 = .tuple [.struct [.int .i64 n3, .int .i64 n4, .bool b4], .int .i64 n5] ∧ Keeps [b, b3] w7 w8 ∧ tail21 r4 b b3 (some ⟨hp, 0, none⟩) (some ⟨hq, 0, none⟩) (fitN S off l more) (fitO S off l more) (fitB S off l more) n3 n4 b4 R (errS S off l.length more) n5 w8 data := by
    intro w5 ns u5 B6 G6 w6 u6 H6 n6 w7 ms7 ns7 u7 hms b3 hb3 hb3' hb3n
    have z5 := u5.size; have z6 := u6.size; have z7 := u7.size
    have W7 := ((W4.old u5).upd u6 (fun x hx hm => d x hm hx)).upd u7 (fun x hx hm => by have := hms x hm; have := ltV x hx; omega)
    have hd7 : SeesB w7 data l := ((hd4.old u5).upd u6 (fun x hx hm => (hdis x hx).2 (List.mem_append_left _ hm))).upd u7 (fun x hx hm => by have := hms x hm; have := (hdis x hx).1; omega)
    have q4 : ∀ x ∈ r4.blk, x ∉ hblk hp B G m := fun x hx hm => by have := g4 x hx; have := ltH x hm; omega
    have hr7 := ((hr4.old u5).upd u6 q4).upd u7 (fun x hx hm => by have := hms x hm; have := g4 x hx; omega)
    have ho7 := ((ho4.old u5).upd u6 q4).upd u7 (fun x hx hm => by have := hms x hm; have := g4 x hx; omega)
    have H7 := H6.upd u7 (fun x hx hm => by
      have := hms x hm
      rcases n6 x hx with q | q
      · have := ltH x q; omega
      · omega)
    have lt6 := H6.lt
    refine c26' r W7 hd7 hb (by omega) (by omega) (fun x hx => ⟨by have := (hdis x hx).1; omega, fun hm => (hdis x hx).2 (List.mem_append_right _ hm)⟩) fun A8 D8 P8 w8 u8 W8 n8 => ?_
    have z8 := u8.size
    refine ⟨_, _, _, _, rfl, kpm u8 (fun x hx => ?_) (fun x hx hm => ?_), ?_⟩
    · simp only [List.mem_cons, List.not_mem_nil, or_false] at hx; rcases hx with rfl | rfl <;> omega
    · have := ltV x hm
      simp only [List.mem_cons, List.not_mem_nil, or_false] at hx; rcases hx with rfl | rfl <;> omega
    have qv : ∀ x ∈ r4.blk, x ∉ wblk hq A D P := fun x hx hm => by have := g4 x hx; have := ltV x hm; omega
    have dv : ∀ x ∈ data.blk, x ∉ wblk hq A D P := fun x hx hm => (hdis x hx).2 (List.mem_append_right _ hm)
    refine t21 (M := w1.heap.size) (hr7.upd u8 qv) (ho7.upd u8 qv) (hd7.upd u8 dv) hll (fun x hx => ?_) fun w9 u9 => ?_
    · simp only [List.mem_cons, List.not_mem_nil, or_false] at hx
      rcases hx with rfl | rfl
      · exact ⟨fun hm => by have := g4 x hm; omega, by omega⟩
      · exact ⟨fun hm => by have := g4 x hm; omega, by omega⟩
    have z9 := u9.size
    have new6 : ∀ x ∈ hblk hp B6 G6 m, x ∈ hblk hp B G m ∨ (w5.heap.size ≤ x ∧ x < w6.heap.size) := fun x hx => by
      rcases n6 x hx with q | q
      · exact .inl q
      · exact .inr ⟨q, (lt6 x hx).2⟩
    have H9 := (H7.upd u8 (fun x hx hm => by
      rcases new6 x hx with q | q
      · exact d x q hm
      · have := ltV x hm; omega)).upd u9 (fun x hx hm => by
      have := g4 x hm
      rcases new6 x hx with q | q
      · have := ltH x q; omega
      · omega)
    have W9 := W8.upd u9 (fun x hx hm => by
      have := g4 x hm
      rcases n8 x hx with q | q
      · have := ltV x q; omega
      · omega)
    have U : Upd (hblk hp B G m ++ wblk hq A D P) [] w w9 := (((((V4.wide (m' := hblk hp B G m ++ wblk hq A D P) (by simp)).step u5 (by simp)).step u6 (fun x hx => .inr (List.mem_append_left _ hx))).step u7 (fun x hx => .inl (by have := hms x hx; omega))).step u8 (fun x hx => .inr (List.mem_append_right _ hx))).step u9 (fun x hx => .inl (by have := g4 x hx; omega))
    have cnt : (stepW S W off l more).pcs.length ≤ n + 1 := by
      unfold stepW
      split
      · simp [putW]; omega
      · omega
    refine k _ w9 U ⟨hp, hq, m, _, _, _, _, _, _, rfl, rfl, r.step off more hb, H9, W9, fun x hx hm => ?_, cnt, rfl⟩ (fun x hx => ?_)
    · rcases new6 x hx with q | q
      · rcases n8 x hm with q2 | q2
        · exact d x q q2
        · have := ltH x q; omega
      · rcases n8 x hm with q2 | q2
        · have := ltV x q2; omega
        · omega
    · rcases List.mem_append.1 hx with hx | hx
      · rcases new6 x hx with q | q
        · exact .inl (List.mem_append_left _ q)
        · exact .inr (by omega)
      · rcases n8 x hx with q | q
        · exact .inl (List.mem_append_right _ q)
        · exact .inr (by omega)
  refine ⟨fun w5 u5 => ?_, fun b3 => ⟨(fun x hx => by cases hx), fun w5 u5 => ?_⟩⟩
  · refine main w5 [] u5 _ fun B6 G6 w6 u6 H6 n6 => ⟨_, _, _, _, rfl, kpm u6 (fun x hx => by rw [List.mem_singleton] at hx; have := u5.size; omega) (fun x hx hm => by rw [List.mem_singleton] at hx; have := ltH x hm; omega), fun b3 => ⟨(fun x hx => by cases hx), fun w7 u7 => ?_⟩⟩
    have n7 := u7.new (b := b3) (by simp)
    have z5 := u5.size; have z6 := u6.size
    have lt6 := H6.lt
    exact rest w5 [] u5 B6 G6 w6 u6 H6 n6 w7 [] [b3] u7 (by simp) b3 (by omega) n7.2 (fun hm => by have := lt6 b3 hm; omega)
  · have n5 := u5.new (b := b3) (by simp)
    refine main w5 [b3] u5 _ fun B6 G6 w6 u6 H6 n6 => ⟨_, _, _, _, rfl, kpm u6 (fun x hx => by simp only [List.mem_cons, List.not_mem_nil, or_false] at hx; have := u5.size; rcases hx with rfl | rfl <;> omega) (fun x hx hm => by simp only [List.mem_cons, List.not_mem_nil, or_false] at hx; have := ltH x hm; rcases hx with rfl | rfl <;> omega), fun w7 u7 => ?_⟩
    have z5 := u5.size; have z6 := u6.size; have z7 := u7.size
    exact rest w5 [b3] u5 B6 G6 w6 u6 H6 n6 w7 [b3] [] u7 (fun x hx => by rw [List.mem_singleton] at hx; omega) b3 (by omega) (by omega) (fun hm => by
      rcases n6 b3 hm with q | q
      · have := ltH b3 q; omega
      · omega)
end
end Go.Vc.S11
