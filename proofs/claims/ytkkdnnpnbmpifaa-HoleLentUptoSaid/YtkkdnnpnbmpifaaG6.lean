import Derived.Test.YtkkdnnpnbmpifaaG4
import Derived.Test.YtkkdnnpnbmpifaaG5
import Derived.Test.YtkkdnnpnbmpifaaG3
import Derived.KernelRfl
import Derived.DeepKeys4
section
namespace Go.Vc
set_option linter.unusedVariables false
set_option linter.unusedSimpArgs false
set_option autoImplicit false
/-- a window of q bytes in s, from p on -/
structure Win (s o : Sl) (p q : Nat) : Prop where
  len : o.len = q
  le : p + q ≤ s.len
  at_ : ∀ k, k < q → o.at 1 k = s.at 1 (p + k)
  blk : ∀ b ∈ o.blk, b ∈ s.blk
  isS : 0 < q → o.ptr.isSome = true
  sees : ∀ (w : World) (l : List Int), SeesB w s l → SeesB w o ((l.drop p).take q)
theorem Win.sub {s o : Sl} {p q lo hi mx : Nat} (h : Win s o p q) (h1 : lo ≤ hi) (h2 : hi ≤ q) (h3 : hi ≤ mx) : Win s (o.sub 1 lo hi mx) (p + lo) (hi - lo) where
  len := by simp [Sl.sub]
  le := by have := h.le; omega
  at_ k hk := by
    have e : (o.sub 1 lo hi mx).at 1 k = o.at 1 (lo + k) := by
      unfold Sl.sub Sl.at
      have : mx ≠ lo := by omega
      simp only [if_neg this]
      obtain ⟨a, ha⟩ := Option.isSome_iff_exists.1 (h.isS (by omega))
      rw [ha]
      show (a.add (lo * 1)).add (k * 1) = a.add ((lo + k) * 1)
      rw [add_add]; congr 1; omega
    rw [e, h.at_ _ (by omega)]; congr 1; omega
  blk b hb := h.blk b (sub_blk b hb)
  isS hq := by
    have := h.isS (by omega)
    unfold Sl.sub
    simp only
    split
    · exact this
    · rw [Option.isSome_map]; exact this
  sees w l hl := by
    have hs := h.sees w l hl
    have hll := hl.len
    have hle := h.le
    have := hs.subB (lo := lo) (hi := hi) (mx := mx) h1 (by simp; omega) h3
    rw [List.take_take, Nat.min_eq_left h2, List.drop_take, List.drop_drop] at this
    exact this
theorem Win.whole0 {s : Sl} {n m : Nat} (h : n ≤ s.len) (hm : n ≤ m) (hs : s.ptr.isSome = true) : Win s (s.sub 1 0 n m) 0 n where
  len := by simp [Sl.sub]
  le := by omega
  at_ k hk := by
    rw [Nat.zero_add]
    unfold Sl.sub Sl.at
    simp only
    split
    · rfl
    · cases s.ptr <;> simp [Addr.add]
  blk b hb := sub_blk b hb
  isS hq := by
    unfold Sl.sub
    simp only
    split
    · exact hs
    · rw [Option.isSome_map]; exact hs
  sees w l hl := by
    have hll := hl.len
    have := hl.subB (lo := 0) (hi := n) (mx := m) (by omega) (by omega) hm
    simpa using this
theorem Win.ix {s o : Sl} {p q k : Nat} {w : World} {L : List Int} {X : Prop} (h : Win s o p q) (hs : SeesB w s L) (hk : k < q) (x : X) : Need (decide (0 ≤ (k : Int)) && decide ((k : Int) < (o.len : Int)) && o.ptr.isSome) X := by
  have := h.sees w L hs
  have := hs.len
  have := h.le
  exact needB (h.sees w L hs) (by omega) (by simp; omega) x
theorem Win.cell {s o : Sl} {p q k : Nat} {w : World} {L : List Int} (h : Win s o p q) (hs : SeesB w s L) (hk : k < q) : w.cell? (o.at 1 (Int.toNat (k : Int))) = some (.int .u8 (bt L ((p + k : Nat) : Int))) := by
  rw [Int.toNat_natCast, h.at_ k hk]
  exact byteC hs (p + k) (by have := hs.len; have := h.le; omega)
theorem Win.store {s o : Sl} {p q k N : Nat} {w : World} {L : List Int} {x : Int} {bs : List Nat} {F : World → Prop} (h : Win s o p q) (hs : SeesB w s L) (ho : Own N 1 w s) (hk : k < q) (hbs : ∀ b ∈ s.blk, b ∉ bs)
    (kk : ∀ w1, SeesB w1 s (L.set (p + k) x) → Own N 1 w1 s → Upd s.blk [] w w1 → F w1) : Store w (o.at 1 (Int.toNat (k : Int))) [.int .u8 x] bs F := by
  rw [Int.toNat_natCast, h.at_ k hk]
  exact own_set (c := cU8) hs ho (by decide) (by have := hs.len; have := h.le; omega) rfl hbs kk

/-- k bytes from p on, turned by c -/
def xs (c : Int) (p k : Nat) (l : List Int) : List Int := (List.range l.length).map fun i => if p ≤ i ∧ i < p + k then ixor .u8 (bt l (i : Int)) c else bt l (i : Int)
theorem xs_len (c : Int) (p k : Nat) (l : List Int) : (xs c p k l).length = l.length := by simp [xs]
theorem xs_bt {c : Int} {p k i : Nat} {l : List Int} (h : i < l.length) : bt (xs c p k l) (i : Int) = if p ≤ i ∧ i < p + k then ixor .u8 (bt l (i : Int)) c else bt l (i : Int) := by
  rw [bt_nat (by rw [xs_len]; exact h)]
  simp [xs]
theorem xs_zero (c : Int) (p : Nat) (l : List Int) : xs c p 0 l = l :=
  bt_ext (xs_len _ _ _ _) fun i hi => by rw [xs_len] at hi; rw [xs_bt hi, if_neg (by omega)]
theorem xs_set {c : Int} {p k : Nat} {l : List Int} (h : p + k < l.length) : (xs c p k l).set (p + k) (ixor .u8 (bt (xs c p k l) ((p + k : Nat) : Int)) c) = xs c p (k + 1) l :=
  bt_ext (by simp [xs_len]) fun i hi => by
    have hi' : i < l.length := by simpa [xs_len] using hi
    have e0 : bt (xs c p k l) ((p + k : Nat) : Int) = bt l ((p + k : Nat) : Int) := by rw [xs_bt h, if_neg (by omega)]
    rw [bt_set (by rw [xs_len]; exact h), e0]
    by_cases e : i = p + k
    · subst e; rw [if_pos rfl, xs_bt h, if_pos (by omega)]
    · rw [if_neg e, xs_bt hi', xs_bt hi']
      by_cases e2 : p ≤ i ∧ i < p + k
      · rw [if_pos e2, if_pos (by omega)]
      · rw [if_neg e2, if_neg (by omega)]
theorem ixor_r {a c : Int} (ha : 0 ≤ a ∧ a < 256) (hc : 0 ≤ c ∧ c < 256) : 0 ≤ ixor .u8 a c ∧ ixor .u8 a c < 256 := by
  rw [ixor_u8 ha.1 ha.2 hc.1 hc.2]
  have : a.toNat ^^^ c.toNat < 2 ^ 8 := Nat.xor_lt_two_pow (by omega) (by omega)
  omega
theorem ixor_inv {a c : Int} (ha : 0 ≤ a ∧ a < 256) (hc : 0 ≤ c ∧ c < 256) : ixor .u8 (ixor .u8 a c) c = a := by
  have h := ixor_r ha hc
  rw [ixor_u8 h.1 h.2 hc.1 hc.2, ixor_u8 ha.1 ha.2 hc.1 hc.2, Int.toNat_natCast, Nat.xor_assoc, Nat.xor_self, Nat.xor_zero]
  omega
theorem xs_byt {c : Int} {p k : Nat} {l : List Int} (hb : Byt l) (hc : 0 ≤ c ∧ c < 256) : Byt (xs c p k l) := by
  intro x hx
  obtain ⟨i, hi, rfl⟩ := List.mem_map.1 hx
  have := hb.bt (i : Int)
  split
  · exact ixor_r this hc
  · exact this
theorem xs_inv {c : Int} {p k : Nat} {l : List Int} (hb : Byt l) (hc : 0 ≤ c ∧ c < 256) : xs c p k (xs c p k l) = l :=
  bt_ext (by simp [xs_len]) fun i hi => by
    have hi' : i < l.length := by simpa [xs_len] using hi
    rw [xs_bt (by rw [xs_len]; exact hi'), xs_bt hi']
    by_cases e : p ≤ i ∧ i < p + k
    · rw [if_pos e, if_pos e]; exact ixor_inv (hb.bt _) hc
    · rw [if_neg e, if_neg e]
theorem not_self : ∀ x : Fin 256, x.val ^^^ 255 ≠ x.val := by decide +kernel
theorem ixor_ne {a : Int} (ha : 0 ≤ a ∧ a < 256) : a ≠ ixor .u8 a 255 := by
  rw [ixor_u8 ha.1 ha.2 (by decide) (by decide)]
  have := not_self ⟨a.toNat, by omega⟩
  simp only at this
  have e : (255 : Int).toNat = 255 := rfl
  rw [e]; omega
end Go.Vc
end

section
namespace Go.Vc
set_option linter.unusedVariables false
set_option linter.unusedSimpArgs false
set_option autoImplicit false
/-- cells of more kinds than one -/
inductive CV
  | sl (s : Sl) | int (n : Int) | ptr (p : Option Addr) | map (r : Option Nat)
def cCV : Cod CV := ⟨1, fun | .sl s => [s.val] | .int n => [.int .i64 n] | .ptr p => [.pointer p] | .map r => [.map r], by intro x; cases x <;> rfl, by intro x v hv; cases x <;> simp at hv <;> subst hv <;> rfl⟩
abbrev bxN (b n : Nat) : Sl := ⟨some ⟨b, 0, none⟩, n, n⟩
/-- a box of such cells -/
structure Bx (w : World) (b : Nat) (l : List CV) : Prop where
  sees : Sees cCV w (bxN b l.length) l
  own : Own 0 1 w (bxN b l.length)
section
variable {w w1 : World} {b : Nat} {l : List CV}
theorem Bx.mk' {e : Nat} {cs : List Value} (h : w.heap[b]? = some (.cells cs.toArray e (0, 0))) (hc : cs = cCV.cells l) : Bx w b l :=
  ⟨sees_row h l hc rfl, own_row h (Nat.zero_le _) (by rw [hc, cCV.cells_length]; simp [cCV]) (Nat.le_refl _)⟩
theorem Bx.upd {m n : List Nat} (h : Bx w b l) (u : Upd m n w w1) (hm : b ∉ m) : Bx w1 b l := ⟨h.sees.upd u (by simpa [Sl.blk] using hm), h.own.upd u (by simpa [Sl.blk] using hm)⟩
theorem Bx.old {n : List Nat} (h : Bx w b l) (u : Upd [] n w w1) : Bx w1 b l := h.upd u (by simp)
theorem Bx.lt (h : Bx w b l) : b < w.heap.size := (h.own.blk b (by simp [Sl.blk])).2
theorem Bx.at_ (i : Nat) : (bxN b l.length).at 1 i = (⟨b, 0, none⟩ : Addr).add i := by simp [Sl.at]
theorem Bx.get (h : Bx w b l) (i : Nat) (hi : i < l.length) : some (w.cell? ((⟨b, 0, none⟩ : Addr).add i)) = ((cCV.enc l[i]).head?).map some := by
  have h0 : 0 < (cCV.enc l[i]).length := by cases l[i] <;> exact Nat.one_pos
  have h1 := h.sees.elem hi 0 h0
  rw [add_zero] at h1
  have h2 : w.cell? ((⟨b, 0, none⟩ : Addr).add i) = some (cCV.enc l[i])[0] := by rw [← Bx.at_ (b := b) (l := l)]; exact h1
  rw [h2]
  exact (fun (x : CV) (h : 0 < (cCV.enc x).length) => (by cases x <;> rfl : some (some (cCV.enc x)[0]) = ((cCV.enc x).head?).map some)) _ h0
theorem Bx.sl (h : Bx w b l) (i : Nat) (s : Sl) (hi : l[i]? = some (.sl s)) : w.cell? ((⟨b, 0, none⟩ : Addr).add i) = some s.val := by
  obtain ⟨h1, h2⟩ := List.getElem?_eq_some_iff.1 hi
  have := h.get i h1
  rw [h2] at this
  exact Option.some.inj this
theorem Bx.int (h : Bx w b l) (i : Nat) (n : Int) (hi : l[i]? = some (.int n)) : w.cell? ((⟨b, 0, none⟩ : Addr).add i) = some (.int .i64 n) := by
  obtain ⟨h1, h2⟩ := List.getElem?_eq_some_iff.1 hi
  have := h.get i h1
  rw [h2] at this
  exact Option.some.inj this
theorem Bx.ptr (h : Bx w b l) (i : Nat) (p : Option Addr) (hi : l[i]? = some (.ptr p)) : w.cell? ((⟨b, 0, none⟩ : Addr).add i) = some (.pointer p) := by
  obtain ⟨h1, h2⟩ := List.getElem?_eq_some_iff.1 hi
  have := h.get i h1
  rw [h2] at this
  exact Option.some.inj this
theorem Bx.mp (h : Bx w b l) (i : Nat) (p : Option Nat) (hi : l[i]? = some (.map p)) : w.cell? ((⟨b, 0, none⟩ : Addr).add i) = some (.map p) := by
  obtain ⟨h1, h2⟩ := List.getElem?_eq_some_iff.1 hi
  have := h.get i h1
  rw [h2] at this
  exact Option.some.inj this
theorem Bx.set {bs : List Nat} {vs : List Value} {y : CV} {F : World → Prop} (h : Bx w b l) (i : Nat) (hi : i < l.length) (hv : vs = cCV.enc y) (hbs : b ∉ bs) (k : ∀ w1, Bx w1 b (l.set i y) → Upd [b] [] w w1 → F w1) : Store w ((⟨b, 0, none⟩ : Addr).add i) vs bs F := by
  rw [← Bx.at_ (b := b) (l := l)]
  refine own_set (c := cCV) (x := y) h.sees h.own (by decide) hi hv (by simpa [Sl.blk] using hbs) fun w1 h1 o1 u1 => k w1 ⟨by simpa using h1, by rw [List.length_set]; exact o1⟩ (by simpa [Sl.blk] using u1)
end
/-- the marks of a desk -/
def dmk (i : Nat) : Int := wr .u8 (wr .i64 (203 - wr .i64 (5 * (i : Int))))
def dmks (K : Nat) : List Int := (List.range K).map dmk
theorem dmks_len (K : Nat) : (dmks K).length = K := by simp [dmks]
theorem dmks_bt {K i : Nat} (h : i < K) : bt (dmks K) (i : Int) = dmk i := by rw [bt_nat (by rw [dmks_len]; exact h)]; simp [dmks]
/-- a desk with bytes on it -/
structure Dsk (N : Nat) (w : World) (b : Nat) (l : List Int) (K : Nat) (room : Sl) : Prop where
  box : Bx w b [.sl room, .int l.length]
  sees : SeesB w room (l ++ (dmks K).drop l.length)
  le : l.length ≤ K
  own : Own N 1 w room
  off : b ∉ room.blk
theorem Dsk.upd {N : Nat} {w w1 : World} {b K : Nat} {l : List Int} {room : Sl} {m n : List Nat} (h : Dsk N w b l K room) (u : Upd m n w w1) (h1 : b ∉ m) (h2 : ∀ x ∈ room.blk, x ∉ m) : Dsk N w1 b l K room :=
  ⟨h.box.upd u h1, h.sees.upd u h2, h.le, h.own.upd u h2, h.off⟩
theorem Dsk.old {N : Nat} {w w1 : World} {b K : Nat} {l : List Int} {room : Sl} {n : List Nat} (h : Dsk N w b l K room) (u : Upd [] n w w1) : Dsk N w1 b l K room := h.upd u (by simp) (by simp)
theorem Dsk.len {N : Nat} {w : World} {b K : Nat} {l : List Int} {room : Sl} (h : Dsk N w b l K room) : room.len = K := by
  have := h.sees.len
  have := h.le
  simp [dmks_len] at *
  omega
/-- what was lent -/
theorem Dsk.lent {N : Nat} {w : World} {b K : Nat} {l : List Int} {room : Sl} (h : Dsk N w b l K room) {n : Nat} (hn : n = l.length) : SeesB w (room.sub 1 0 n room.cap) l := by
  subst hn
  have h1 := h.len
  have := h.le
  have := h.own.le
  have := h.sees.subB (lo := 0) (hi := l.length) (mx := room.cap) (by omega) (by simp) (by omega)
  simpa using this
end Go.Vc
end

section
namespace Go.Vc
set_option linter.unusedVariables false
set_option linter.unusedSimpArgs false
set_option autoImplicit false
/-- a list of lists, each in an array of its own -/
structure LotC {α : Type} (c : Cod α) (N : Nat) (w : World) (L : Sl) (ls : List (List α)) (gs : List Sl) : Prop where
  row : Sees cSl w L gs
  len : gs.length = ls.length
  each : ∀ i (h : i < ls.length), Sees c w (gs[i]'(by rw [len]; exact h)) ls[i]
  own : Own N 1 w L
  owns : ∀ x ∈ gs, Own N c.sz w x
  dis : gs.Pairwise Apt
  off : ∀ x ∈ gs, Apt x L
section
variable {α : Type} {c : Cod α} {N : Nat} {w w1 : World} {L : Sl} {ls : List (List α)} {gs : List Sl}
theorem LotC.nil (c : Cod α) (N : Nat) (w : World) : LotC c N w ⟨none, 0, 0⟩ [] [] := ⟨Sees.nil _ _ _ _, rfl, by simp, Own.none _ _ _, by simp, by simp, by simp⟩
/-- all its blocks -/
def lotB (L : Sl) (gs : List Sl) : List Nat := L.blk ++ gs.flatMap Sl.blk
theorem lotB_mem {x : Nat} : x ∈ lotB L gs ↔ x ∈ L.blk ∨ ∃ g ∈ gs, x ∈ g.blk := by simp [lotB]
theorem LotC.upd {m n : List Nat} (h : LotC c N w L ls gs) (u : Upd m n w w1) (hm : ∀ x ∈ lotB L gs, x ∉ m) : LotC c N w1 L ls gs :=
  have a := fun x hx => hm x (lotB_mem.2 (.inl hx))
  have b := fun g (hg : g ∈ gs) x hx => hm x (lotB_mem.2 (.inr ⟨g, hg, hx⟩))
  ⟨h.row.upd u a, h.len, fun i hi => (h.each i hi).upd u (b _ (List.getElem_mem _)), h.own.upd u a, fun x hx => (h.owns x hx).upd u (b x hx), h.dis, h.off⟩
theorem LotC.old {n : List Nat} (h : LotC c N w L ls gs) (u : Upd [] n w w1) : LotC c N w1 L ls gs := h.upd u (by simp)
theorem LotC.lt (h : LotC c N w L ls gs) : ∀ x ∈ lotB L gs, N ≤ x ∧ x < w.heap.size := fun x hx => by
  rcases lotB_mem.1 hx with q | ⟨g, hg, q⟩
  · exact h.own.blk x q
  · exact (h.owns g hg).blk x q
/-- one list more -/
theorem LotC.app1 {b e e' k0 : Nat} {g : Sl} {l : List α} {F : Sl → World → Prop} {cs : List Value} (h : LotC c N w L ls gs) (hrow : w.heap[b]? = some (.cells cs.toArray e (0, 0))) (hcs : cs = cSl.cells [g]) (hk0 : k0 = 1) (hg : Sees c w g l) (og : Own N c.sz w g) (hd : ∀ x ∈ g.blk, x ∉ lotB L gs)
    (hNw : N ≤ w.heap.size) (hb : (gs.length + 1) * 24 ≤ 140737488355328)
    (k : ∀ r w1, LotC c N w1 r (ls ++ [l]) (gs ++ [g]) → Upd L.blk [] w w1 → (∀ x ∈ r.blk, x ∈ L.blk ∨ w.heap.size ≤ x) → F r w1) : Append e' 1 24 L ⟨some ⟨b, 0, none⟩, k0, k0⟩ [] w F := by
  subst hcs hk0
  refine append_own (c := cSl) (new := [g]) h.row h.own (sees_row hrow _ rfl rfl) hNw (by simp) (by decide) hb fun r w1 hr ho u hnew => ?_
  have hgl := h.len
  have dg : ∀ x ∈ gs, ∀ b ∈ x.blk, b ∉ L.blk := h.off
  have dn : ∀ x ∈ g.blk, x ∉ L.blk := fun x hx hm => hd x hx (lotB_mem.2 (.inl hm))
  refine k r w1 ⟨hr, by simp [hgl], fun i hi => ?_, ho, ?_, ?_, ?_⟩ u hnew
  · by_cases hi2 : i < ls.length
    · rw [List.getElem_append_left (by rw [hgl]; exact hi2)]
      have e : (ls ++ [l])[i] = ls[i] := List.getElem_append_left hi2
      rw [e]
      exact (h.each i hi2).upd u (dg _ (List.getElem_mem _))
    · have hil : i = ls.length := by simp at hi; omega
      subst hil
      have e : (ls ++ [l])[ls.length] = l := by simp
      rw [e]
      have e2 : (gs ++ [g])[ls.length]'(by simp [hgl]) = g := by simp [← hgl]
      rw [e2]
      exact hg.upd u dn
  · intro x hx
    rcases List.mem_append.1 hx with hx | hx
    · exact (h.owns x hx).upd u (dg x hx)
    · rw [List.mem_singleton] at hx; subst hx; exact og.upd u dn
  · rw [List.pairwise_append]
    refine ⟨h.dis, by simp, fun x hx y hy b hb hm => ?_⟩
    rw [List.mem_singleton] at hy; subst hy
    exact hd b hm (lotB_mem.2 (.inr ⟨x, hx, hb⟩))
  · intro x hx b hb hm
    rcases List.mem_append.1 hx with hx | hx
    · rcases hnew b hm with h1 | h1
      · exact dg x hx b hb h1
      · have := ((h.owns x hx).blk b hb).2; omega
    · rw [List.mem_singleton] at hx; subst hx
      rcases hnew b hm with h1 | h1
      · exact dn b hb h1
      · have := (og.blk b hb).2; omega
end
end Go.Vc
end

section
namespace Go.Vc
set_option linter.unusedVariables false
set_option linter.unusedSimpArgs false
set_option autoImplicit false
/-- pairs of numbers -/
def cG : Cod (Int × Int) := ⟨2, fun p => [.int .i64 p.1, .int .i64 p.2], fun _ => rfl, by simp [Value.oneCell']⟩
/-- a Holes -/
structure Hs where
  max : Int
  buf : List Int
  gaps : List (Int × Int)
  fin : Int
  held : Int
  seen : List (Int × Int × Bool)
def keyS (k : Int × Int × Bool) : SV := .struct [.int .i64 k.1, .int .i64 k.2.1, .bool k.2.2]
def seenL (l : List (Int × Int × Bool)) : List (Value × SV) := l.map fun k => ((keyS k).enc, .struct [])
theorem MapL.upd {w w1 : World} {r : Nat} {l : List (Value × SV)} {m n : List Nat} (h : MapL w r l) (u : Upd m n w w1) (hm : r ∉ m) : MapL w1 r l := by
  obtain ⟨es, c, hb, hl⟩ := h
  exact ⟨es, c, by rw [u.keep r (Array.getElem?_eq_some_iff.1 hb).1 hm]; exact hb, hl⟩
theorem MapL.lt {w : World} {r : Nat} {l : List (Value × SV)} (h : MapL w r l) : r < w.heap.size := by
  obtain ⟨es, c, hb, hl⟩ := h
  exact (Array.getElem?_eq_some_iff.1 hb).1
/-- .. in memory: its struct lies at h, its bytes and holes are its own, its map lies at m -/
structure Hol (N : Nat) (w : World) (h : Nat) (S : Hs) (B G : Sl) (m : Nat) : Prop where
  box : Bx w h [.int S.max, .sl B, .sl G, .int S.fin, .int S.held, .map (some m)]
  buf : SeesB w B S.buf
  bo : Own N 1 w B
  gaps : Sees cG w G S.gaps
  go : Own N 2 w G
  map : MapL w m (seenL S.seen)
  a1 : h ∉ B.blk ∧ h ∉ G.blk ∧ h ≠ m
  a2 : m ∉ B.blk ∧ m ∉ G.blk
  a3 : ∀ x ∈ B.blk, x ∉ G.blk
  base : N ≤ h ∧ N ≤ m ∧ N ≤ w.heap.size
/-- its blocks -/
def hblk (h : Nat) (B G : Sl) (m : Nat) : List Nat := h :: m :: (B.blk ++ G.blk)
theorem Hol.upd {N h m : Nat} {w w1 : World} {S : Hs} {B G : Sl} {ms ns : List Nat} (H : Hol N w h S B G m) (u : Upd ms ns w w1) (hm : ∀ x ∈ hblk h B G m, x ∉ ms) : Hol N w1 h S B G m := by
  have hB : ∀ x ∈ B.blk, x ∉ ms := fun x hx => hm x (by simp [hblk, hx])
  have hG : ∀ x ∈ G.blk, x ∉ ms := fun x hx => hm x (by simp [hblk, hx])
  exact ⟨H.box.upd u (hm h (by simp [hblk])), H.buf.upd u hB, H.bo.upd u hB, H.gaps.upd u hG, H.go.upd u hG, H.map.upd u (hm m (by simp [hblk])), H.a1, H.a2, H.a3, ⟨H.base.1, H.base.2.1, by have := u.size; have := H.base.2.2; omega⟩⟩
theorem Hol.old {N h m : Nat} {w w1 : World} {S : Hs} {B G : Sl} {ns : List Nat} (H : Hol N w h S B G m) (u : Upd [] ns w w1) : Hol N w1 h S B G m := H.upd u (by simp)
theorem Hol.lt {N h m : Nat} {w : World} {S : Hs} {B G : Sl} (H : Hol N w h S B G m) : ∀ x ∈ hblk h B G m, N ≤ x ∧ x < w.heap.size := by
  intro x hx
  simp only [hblk, List.mem_cons, List.mem_append] at hx
  rcases hx with rfl | rfl | hx | hx
  · exact ⟨H.base.1, H.box.lt⟩
  · exact ⟨H.base.2.1, H.map.lt⟩
  · exact H.bo.blk x hx
  · exact H.go.blk x hx
/-! what it answers -/
def topS (S : Hs) : Int := match S.gaps.getLast? with | none => S.max | some g => if g.2 = S.max then g.1 else S.max
def errS (S : Hs) (off : Int) (n : Nat) (more : Bool) : Int :=
  if 65535 < n then 2 else if off < 0 ∨ off.tmod 8 ≠ 0 ∨ (more = true ∧ n % 8 ≠ 0) then 110 else if n = 0 then 111
  else if S.max < off ∨ S.max < off + n then 112 else if 0 ≤ S.fin ∧ more = false ∧ off + n ≠ S.fin then 114
  else if 0 ≤ S.fin ∧ more = true ∧ S.fin < off + n then 113 else if S.fin < 0 ∧ more = false ∧ off + n < topS S then 114 else 0
/-- the holes behind a piece from off to e; how many bytes are new; the bytes -/
def cutG (off e : Int) : List (Int × Int) → List (Int × Int)
  | [] => []
  | g :: r => if e ≤ g.1 then g :: r else if g.2 ≤ off then g :: cutG off e r else (if g.1 < max g.1 off then [(g.1, max g.1 off)] else []) ++ (if min g.2 e < g.2 then [(min g.2 e, g.2)] else []) ++ cutG off e r
def newN (off e : Int) : List (Int × Int) → Int
  | [] => 0
  | g :: r => if e ≤ g.1 then 0 else if g.2 ≤ off then newN off e r else (min g.2 e - max g.1 off) + newN off e r
/-- bytes are laid over, from place i on -/
def blit (l : List Int) (i : Nat) (d : List Int) : List Int := l.take i ++ d ++ l.drop (i + d.length)
def putB (off e : Int) (data : List Int) : List (Int × Int) → List Int → List Int
  | [], l => l
  | g :: r, l => if e ≤ g.1 then l else if g.2 ≤ off then putB off e data r l else
    putB off e data r (blit l (max g.1 off).toNat ((data.take (min g.2 e - off).toNat).drop (max g.1 off - off).toNat))
def finG (S : Hs) (e : Int) (more : Bool) (gs : List (Int × Int)) : List (Int × Int) :=
  if more = false ∧ S.fin < 0 then match gs.getLast? with
    | some g => if g.2 = S.max then (if e ≤ g.1 then gs.dropLast else gs.dropLast ++ [(g.1, e)]) else gs
    | none => gs
  else gs
def putS (S : Hs) (off : Int) (data : List Int) (more : Bool) : Hs :=
  let e := off + data.length
  { max := S.max, buf := putB off e data S.gaps (S.buf ++ List.replicate (e.toNat - S.buf.length) 0),
    gaps := finG S e more (cutG off e S.gaps), fin := if more = false ∧ S.fin < 0 then e else S.fin, held := S.held + newN off e S.gaps,
    seen := if (off, (data.length : Int), more) ∈ S.seen then S.seen else S.seen ++ [(off, (data.length : Int), more)] }
def sameS (S : Hs) (off : Int) (data : List Int) (more : Bool) : Bool :=
  decide ((off, (data.length : Int), more) ∈ S.seen) && decide ((((putS S off data more).buf.take (off + data.length).toNat).drop off.toNat) = data)
end Go.Vc
end

section
open Go Go.Vc Go.Proofs
set_option linter.unusedVariables false
set_option linter.unusedSimpArgs false
set_option autoImplicit false
namespace Go.Vc.S11
section
variable {w : World} {R : SV → World → Prop} {N h m : Nat} {S : Hs} {B G : Sl}
/-- bytes compared -/
theorem c33 {a b : Sl} {la lb : List Int} (ha : SeesB w a la) (hb : SeesB w b lb) (ba : Byt la) (bb : Byt lb) (k : R (.bool (decide (la = lb))) w) : Ret Try.prog 33 [.slice a, .slice b] w R := by
  refine f33_of _ _ _ _ ?_
  unfold vc33
  exact alike (R := fun x => R (.bool x) w) ha hb ba bb k
/-- bytes copied -/
theorem c34 {b : Sl} {l : List Int} (hs : SeesB w b l) (hl : l.length ≤ 140737488355328) (k : ∀ s w1, Upd [] [] w w1 → SeesB w1 s l → Own w.heap.size 1 w1 s → R (.slice s) w1) : Ret Try.prog 34 [.slice b] w R := by
  refine f34_of _ _ _ ?_
  unfold vc34
  refine brb (fun hn => ?_) (fun hn => ?_)
  · have : l = [] := by
      cases l with
      | nil => rfl
      | cons x l => have := hs.isSome (by decide) (by simp); simp_all
    subst this
    exact k _ w (Upd.refl _) (Sees.nil _ _ _ _) (Own.none _ _ _)
  · intro b1 w1 u1 hr1
    have n1 := u1.new (b := b1) (by simp)
    have y1 := u1.size
    refine append_own (c := cU8) (l := []) (Sees.nil _ _ _ _) (own_row (N := w.heap.size) (cap := 0) hr1 (by omega) rfl (Nat.le_refl _)) (hs.old u1) (by omega) (by simp) (by decide) (by simpa using hl) fun r w2 hr2 ho2 u2 _ => ?_
    exact k r w2 (u1.forget.step0 u2 (by simp [Sl.blk]; omega)) (by simpa using hr2) ho2
/-- pairs copied -/
theorem c31 {b : Sl} {l : List (Int × Int)} (hs : Sees cG w b l) (hl : l.length ≤ 1099511627776) (k : ∀ s w1, Upd [] [] w w1 → Sees cG w1 s l → Own w.heap.size 2 w1 s → R (.slice s) w1) : Ret Try.prog 31 [.slice b] w R := by
  refine f31_of _ _ _ ?_
  unfold vc31
  refine brb (fun hn => ?_) (fun hn => ?_)
  · have : l = [] := by
      cases l with
      | nil => rfl
      | cons x l => have := hs.isSome (by decide) (by simp); simp_all
    subst this
    exact k _ w (Upd.refl _) (Sees.nil _ _ _ _) (Own.none _ _ _)
  · intro b1 w1 u1 hr1
    have n1 := u1.new (b := b1) (by simp)
    have y1 := u1.size
    refine append_own (c := cG) (l := []) (Sees.nil _ _ _ _) (own_row (N := w.heap.size) (cap := 0) hr1 (by omega) rfl (Nat.le_refl _)) (hs.old u1) (by omega) (by simp) (by decide) (by simp; omega) fun r w2 hr2 ho2 u2 _ => ?_
    exact k r w2 (u1.forget.step0 u2 (by simp [Sl.blk]; omega)) (by simpa using hr2) ho2
theorem get0 (H : Hol N w h S B G m) : w.cell? ⟨h, 0, none⟩ = some (.int .i64 S.max) := by have := H.box.int 0 S.max rfl; rwa [add_zero] at this
theorem c11 (H : Hol N w h S B G m) (hl : S.gaps.length ≤ 1099511627776) (k : ∀ s w1, Upd [] [] w w1 → Sees cG w1 s S.gaps → Own w.heap.size 2 w1 s → R (.slice s) w1) : Ret Try.prog 11 [.ptr (some ⟨h, 0, none⟩)] w R := by
  refine f11_of _ _ _ ?_
  unfold vc11
  exact ⟨G, H.box.sl 2 G rfl, c31 H.gaps hl fun s w1 u hs ho => ⟨_, rfl, k s w1 u hs ho⟩⟩
theorem c14 (H : Hol N w h S B G m) (k : ∀ w1, Upd [] [] w w1 → R (.tuple [.int .i64 (imax S.fin 0), .bool (decide (S.fin ≥ 0))]) w1) : Ret Try.prog 14 [.ptr (some ⟨h, 0, none⟩)] w R := by
  refine f14_of _ _ _ ?_
  unfold vc14
  exact ⟨S.fin, H.box.int 3 S.fin rfl, S.fin, H.box.int 3 S.fin rfl, fun w1 u => k w1 u⟩
theorem c15 (H : Hol N w h S B G m) (k : R (.int .i64 S.held) w) : Ret Try.prog 15 [.ptr (some ⟨h, 0, none⟩)] w R := by
  refine f15_of _ _ _ ?_
  unfold vc15
  exact ⟨S.held, H.box.int 4 S.held rfl, k⟩
def wholeS (S : Hs) : Bool := decide (S.fin ≥ 0) && S.gaps.isEmpty
theorem c16 (H : Hol N w h S B G m) (k : R (.bool (wholeS S)) w) : Ret Try.prog 16 [.ptr (some ⟨h, 0, none⟩)] w R := by
  refine f16_of _ _ _ ?_
  unfold vc16
  have hgl := H.gaps.len
  refine ⟨S.fin, H.box.int 3 S.fin rfl, brd (fun hf => ⟨G, H.box.sl 2 G rfl, ?_⟩) (fun hf => ?_)⟩
  · have : ((G.len : Int) == 0) = wholeS S := by
      unfold wholeS
      rw [decide_eq_true hf, Bool.true_and, hgl]
      cases S.gaps <;> simp <;> omega
    rw [this]; exact k
  · have : wholeS S = false := by unfold wholeS; rw [decide_eq_false hf]; rfl
    rw [this] at k; exact k
theorem c18 (H : Hol N w h S B G m) (hf : wholeS S = true → S.fin ≤ S.buf.length) (hl : S.buf.length ≤ 140737488355328) (k : ∀ s w1, Upd [] [] w w1 → SeesB w1 s (if wholeS S then S.buf.take S.fin.toNat else []) → Own w.heap.size 1 w1 s → R (.tuple [.slice s, .bool (wholeS S)]) w1) : Ret Try.prog 18 [.ptr (some ⟨h, 0, none⟩)] w R := by
  refine f18_of _ _ _ ?_
  unfold vc18
  refine c16 H ⟨_, rfl, brn (fun hw => ?_) (fun hw => ?_)⟩
  · have := k ⟨none, 0, 0⟩ w (Upd.refl _) (by rw [hw]; exact Sees.nil _ _ _ _) (Own.none _ _ _)
    rwa [hw] at this
  · have hf0 : 0 ≤ S.fin := by unfold wholeS at hw; simp at hw; exact hw.1
    have hf := hf hw
    have hbl := H.buf.len
    have hcap := H.bo.le
    refine ⟨B, H.box.sl 1 B rfl, S.fin, H.box.int 3 S.fin rfl, needIxLe hf0 (by omega) fun w1 u1 => ?_⟩
    have hs := (H.buf.old u1).subB (lo := 0) (hi := S.fin.toNat) (mx := B.cap) (by omega) (by omega) (by omega)
    refine c34 hs (by simp; omega) fun s w2 u2 hs2 ho2 => ⟨_, rfl, ?_⟩
    have := k s w2 (u1.then u2) (by rw [hw]; simpa using hs2) (ho2.mono (by have := u1.size; omega))
    rwa [hw] at this
theorem topS_last {l : List (Int × Int)} (hl : l ≠ []) (hS : S.gaps = l) : topS S = if (l[l.length - 1]'(by have := List.length_pos_iff.2 hl; omega)).2 = S.max then (l[l.length - 1]'(by have := List.length_pos_iff.2 hl; omega)).1 else S.max := by
  unfold topS
  rw [hS, List.getLast?_eq_some_getLast hl, List.getLast_eq_getElem]
theorem c45 (H : Hol N w h S B G m) (hl : S.gaps.length ≤ 1099511627776) (k : ∀ w1, Upd [] [] w w1 → R (.int .i64 (topS S)) w1) : Ret Try.prog 45 [.ptr (some ⟨h, 0, none⟩)] w R := by
  refine f45_of _ _ _ ?_
  unfold vc45
  have hgl := H.gaps.len
  refine ⟨G, H.box.sl 2 G rfl, bre (fun h0 => ?_) (fun h0 => ?_)⟩
  · have hn : S.gaps = [] := List.eq_nil_of_length_eq_zero (by omega)
    have := k w (Upd.refl _)
    unfold topS at this
    rw [hn] at this
    exact ⟨S.max, get0 H, this⟩
  · have hne : S.gaps ≠ [] := by intro e; rw [e] at hgl; simp at hgl; omega
    have hi : S.gaps.length - 1 < S.gaps.length := by omega
    have ew : wr .i64 ((G.len : Int) - 1) = ((S.gaps.length - 1 : Nat) : Int) := by rw [wr_i64 (by omega) (by omega)]; omega
    rw [ew, Int.toNat_natCast]
    refine ⟨G, H.box.sl 2 G rfl, needIx (by omega) (by omega) (H.gaps.isSome (by decide) (by omega)) ⟨fun i => if i = 0 then S.gaps[S.gaps.length - 1].1 else S.gaps[S.gaps.length - 1].2, fun i hi2 => ?_, fun b => ⟨S.max, get0 H, ?_⟩⟩⟩
    · rw [Nat.zero_add]
      have e0 := H.gaps.elem hi 0 (by simp [cG])
      have e1 := H.gaps.elem hi 1 (by simp [cG])
      match i, hi2 with
      | 0, _ => exact e0
      | 1, _ => exact e1
    · simp only [if_true, Nat.one_ne_zero, if_false]
      have ht := topS_last hne rfl (S := S)
      refine bre (fun he => fun w1 u1 => ?_) (fun he => ⟨S.max, get0 H, fun w1 u1 => ?_⟩)
      · have := k w1 u1.forget
        rwa [ht, if_pos he] at this
      · have := k w1 u1.forget
        rwa [ht, if_neg he] at this
theorem c32 {off : Int} {data : Sl} {n : Nat} {more : Bool} (H : Hol N w h S B G m) (hl : S.gaps.length ≤ 1099511627776) (hd : data.len = n) (hmax : S.max ≤ 65535) (k : ∀ w1, Upd [] [] w w1 → R (.int .i64 (errS S off n more)) w1) : Ret Try.prog 32 [.ptr (some ⟨h, 0, none⟩), .int .i64 off, .slice data, .bool more] w R := by
  refine f32_of _ _ _ _ _ _ ?_
  unfold vc32
  subst hd
  have k0 := k w (Upd.refl _)
  refine brd (fun h1 => ?_) (fun h1 => ?_)
  · have e : errS S off data.len more = 2 := by unfold errS; rw [if_pos (by omega)]
    rwa [e] at k0
  intro J hJ
  have key : J (decide (off < 0 ∨ off.tmod 8 ≠ 0 ∨ (more = true ∧ data.len % 8 ≠ 0))) w := by
    refine hJ _ _ (brd (fun h2 => ?_) (fun h2 => bre (fun h3 => ?_) (fun h3 => ⟨S.max, get0 H, brd (fun h4 => ?_) (fun h4 => ⟨S.max, get0 H, ?_⟩)⟩)))
    · have e : errS S off data.len more = 110 := by unfold errS; rw [if_neg (by omega), if_pos h2]
      rwa [e] at k0
    · have e : errS S off data.len more = 111 := by unfold errS; rw [if_neg (by omega), if_neg h2, if_pos (by omega)]
      rwa [e] at k0
    · have e : errS S off data.len more = 112 := by unfold errS; rw [if_neg (by omega), if_neg h2, if_neg (by omega), if_pos (by omega)]
      rwa [e] at k0
    have ho : 0 ≤ off := by
      rcases Int.lt_or_le off 0 with q | q
      · exact absurd (.inl q) h2
      · exact q
    have ew : wr .i64 (off + (data.len : Int)) = off + data.len := wr_i64 (by omega) (by omega)
    rw [ew]
    refine brd (fun h5 => ?_) (fun h5 => ?_)
    · have e : errS S off data.len more = 112 := by unfold errS; rw [if_neg (by omega), if_neg h2, if_neg (by omega), if_pos (by omega)]
      rwa [e] at k0
    have e0 : errS S off data.len more = if 0 ≤ S.fin ∧ more = false ∧ off + data.len ≠ S.fin then 114
        else if 0 ≤ S.fin ∧ more = true ∧ S.fin < off + data.len then 113 else if S.fin < 0 ∧ more = false ∧ off + data.len < topS S then 114 else 0 := by
      unfold errS; rw [if_neg (by omega), if_neg h2, if_neg (by omega), if_neg (by omega)]
    intro J2 hJ2
    have key2 : J2 (decide (0 ≤ S.fin ∧ more = false ∧ off + data.len ≠ S.fin)) w := by
      refine hJ2 _ _ (brd (fun h6 => ?_) (fun h6 => ?_))
      · rw [if_pos h6] at e0
        rwa [e0] at k0
      rw [if_neg h6] at e0
      intro J3 hJ3
      have key3 : J3 (decide (0 ≤ S.fin ∧ more = true ∧ S.fin < off + data.len)) w := by
        refine hJ3 _ _ (brd (fun h7 => ?_) (fun h7 => ⟨S.fin, H.box.int 3 S.fin rfl, brd (fun h8 => brn (fun h9 => ?_) (fun h9 => ?_)) (fun h8 => ?_)⟩))
        · rw [if_pos h7] at e0
          rwa [e0] at k0
        · rw [if_neg h7] at e0
          refine c45 H hl fun w1 u1 => ⟨_, rfl, brd (fun h10 => ?_) (fun h10 => ?_)⟩
          · rw [if_pos ⟨h8, h9, by omega⟩] at e0
            have := k w1 u1
            rwa [e0] at this
          · rw [if_neg (by intro q; omega)] at e0
            have := k w1 u1
            rwa [e0] at this
        · rw [if_neg h7, if_neg (by simp [h9])] at e0
          rwa [e0] at k0
        · rw [if_neg h7, if_neg (by omega)] at e0
          rwa [e0] at k0
      refine ⟨S.fin, H.box.int 3 S.fin rfl, brd (fun h7 => brb (fun h8 => ⟨S.fin, H.box.int 3 S.fin rfl, ?_⟩) (fun h8 => ?_)) (fun h7 => ?_)⟩
      · rw [show decide (off + (data.len : Int) > S.fin) = decide (0 ≤ S.fin ∧ more = true ∧ S.fin < off + data.len) from decide_eq_decide.2 ⟨fun q => ⟨h7, h8, q⟩, fun q => q.2.2⟩]
        exact key3
      · rw [show decide (0 ≤ S.fin ∧ more = true ∧ S.fin < off + data.len) = false from decide_eq_false (by simp [h8])] at key3
        exact key3
      · rw [show decide (0 ≤ S.fin ∧ more = true ∧ S.fin < off + data.len) = false from decide_eq_false (by intro q; exact h7 q.1)] at key3
        exact key3
    refine ⟨S.fin, H.box.int 3 S.fin rfl, brd (fun h7 => brn (fun h8 => ⟨S.fin, H.box.int 3 S.fin rfl, ?_⟩) (fun h8 => ?_)) (fun h7 => ?_)⟩
    · rw [show (off + (data.len : Int) != S.fin) = decide (0 ≤ S.fin ∧ more = false ∧ off + data.len ≠ S.fin) by
        by_cases q : off + (data.len : Int) = S.fin
        · rw [decide_eq_false (by simp [q])]; simp [q]
        · rw [decide_eq_true ⟨h7, h8, q⟩]; simp [q]]
      exact key2
    · rw [show decide (0 ≤ S.fin ∧ more = false ∧ off + data.len ≠ S.fin) = false from decide_eq_false (by simp [h8])] at key2
      exact key2
    · rw [show decide (0 ≤ S.fin ∧ more = false ∧ off + data.len ≠ S.fin) = false from decide_eq_false (by intro q; exact h7 q.1)] at key2
      exact key2
  refine brd (fun h2 => ?_) (fun h2 => bre' (fun h3 => ?_) (fun h3 => brb (fun h4 => ?_) (fun h4 => ?_)))
  · rwa [decide_eq_true (.inl h2)] at key
  · rwa [decide_eq_true (.inr (.inl h3))] at key
  · rw [show (Int.tmod (data.len : Int) 8 != 0) = decide (off < 0 ∨ off.tmod 8 ≠ 0 ∨ (more = true ∧ data.len % 8 ≠ 0)) by
      have e8 : Int.tmod (data.len : Int) 8 = ((data.len % 8 : Nat) : Int) := by rw [Int.tmod_eq_emod_of_nonneg (by omega)]; rfl
      rw [e8]
      by_cases q : data.len % 8 = 0
      · rw [decide_eq_false (by intro x; rcases x with x | x | x; exact h2 x; exact x h3; exact x.2 q)]; simp [q]
      · rw [decide_eq_true (.inr (.inr ⟨h4, q⟩))]; simp; omega]
    exact key
  · rw [decide_eq_false (by intro x; rcases x with x | x | x; exact h2 x; exact x h3; rw [h4] at x; cases x.1)] at key
    exact key
/-- a new one -/
theorem c10 {mx : Int} (k0 : (mx < 1 ∨ 65535 < mx) → R (.tuple [.ptr none, .int .i64 1]) w)
    (k : 1 ≤ mx → mx ≤ 65535 → ∀ h m G w1, Upd [] [] w w1 → Hol w.heap.size w1 h ⟨mx, [], [(0, mx)], -1, 0, []⟩ ⟨none, 0, 0⟩ G m → R (.tuple [.ptr (some ⟨h, 0, none⟩), .int .i64 0]) w1) : Ret Try.prog 10 [.int .i64 mx] w R := by
  refine f10_of _ _ _ ?_
  unfold vc10
  intro J hJ
  refine brd (fun h1 => k0 (.inl h1)) (fun h1 => brd (fun h2 => k0 (.inr h2)) (fun h2 => ?_))
  refine hJ _ ?_
  intro b1 w1 u1 hr1 b2 w2 u2 hm2 b3 w3 u3 hr3
  have n1 := u1.new (b := b1) (by simp)
  have n2 := u2.new (b := b2) (by simp)
  have n3 := u3.new (b := b3) (by simp)
  have y1 := u1.size; have y2 := u2.size; have y3 := u3.size
  refine k (by omega) (by omega) b3 b2 ⟨some ⟨b1, 0, none⟩, 1, 1⟩ w3 ((u1.then u2).then u3) ⟨Bx.mk' hr3 rfl, Sees.nil _ _ _ _, Own.none _ _ _, ?_, ?_, hm2.upd u3 (by simp), ?_, ?_, by simp [Sl.blk], ⟨by omega, by omega, by omega⟩⟩
  · exact ((sees_row (c := cG) hr1 [(0, mx)] rfl rfl).old u2).old u3
  · exact ((own_row hr1 n1.1 (cap := 1) rfl (Nat.le_refl _)).old u2).old u3
  · simp [Sl.blk]; omega
  · simp [Sl.blk]; omega
end
end Go.Vc.S11
end

section
open Go Go.Vc Go.Vc.S11 Go.Proofs
set_option maxRecDepth 100000
set_option linter.unusedVariables false
namespace Go.Vc.S11
def a1012 : Ann := (.seq .leaf (.seq (.seq .leaf (.seq .leaf (.cond (.seq .leaf .leaf) .leaf))) (.seq .leaf (.cut [] [0] (.seq .leaf (.cond (.draw (.early 0 (.early 1 (.early 2 (.early 3 (.early 4 (.early 5 (.early 6 (.early 7 (.early 8 (.early 9 (.early 10 (.early 11 (.fork [(12, (.early 13 (.early 14 (.fork [(15, .done)]))))])))))))))))))) .leaf)) (.seq .leaf (.seq .leaf (.seq .leaf (.cut [(.t 13, (.slice 29)), (.b 1, (.struct false [(.int .i64), (.int .i64), .bool]))] [0] (.seq .leaf (.block (.loop [(.t 13, (.slice 29)), (.t 62, (.int .i64)), (.b 1, (.struct false [(.int .i64), (.int .i64), .bool]))] [0] (.seq .leaf (.seq (.cond .leaf .leaf) (.seq (.block (.seq .leaf (.seq (.seq .leaf (.cond (.seq .leaf .leaf) .leaf)) (.seq (.seq .leaf (.cond (.seq .leaf .leaf) .leaf)) (.seq (.draw (.early 0 (.early 1 (.early 2 (.early 3 (.early 4 (.early 5 (.early 6 (.early 7 (.early 8 (.early 9 .done))))))))))) (.seq (.drawK [] (.early 0 (.early 1 (.early 2 (.early 3 (.early 4 (.early 5 (.early 6 (.early 7 (.early 8 (.early 9 (.early 10 (.early 11 (.early 12 (.early 13 (.early 14 (.early 15 (.early 16 (.fork [(17, (.early 18 (.early 19 (.fork [(20, .done)]))))]))))))))))))))))))) (.cut [(.t 13, (.slice 29))] [0, 1, 2] (.seq .leaf (.cond .leaf .leaf)) (.seq .leaf (.cond .leaf .leaf))))))))) .leaf)))))) (.seq .leaf (.cut [] [0, 1] (.seq .leaf (.cond (.seq .leaf (.seq .leaf (.seq (.draw (.early 0 (.early 1 (.early 2 (.early 3 (.early 4 (.early 5 (.early 6 (.early 7 (.early 8 (.early 9 (.early 10 (.early 11 (.early 12 (.early 13 (.early 14 (.early 15 (.early 16 (.early 17 .done))))))))))))))))))) (.cond (.seq .leaf (.seq .leaf (.cond .leaf .leaf))) .leaf)))) .leaf)) (.seq (.draw (.early 0 (.early 1 (.early 2 (.early 3 (.early 4 (.early 5 (.early 6 (.early 7 (.early 8 (.fork [(9, .done)]))))))))))) (.seq .leaf (.seq .leaf (.seq (.draw (.early 0 (.early 1 (.early 2 (.early 3 (.early 4 (.fork [(5, (.early 6 (.early 7 (.early 8 (.fork [(9, (.fork [(10, (.early 11 .done))]))]))))), (9, (.fork [(5, (.early 6 (.early 7 (.early 8 (.fork [(10, (.early 11 .done))])))))]))]))))))) (.seq .leaf (.seq (.draw (.early 0 (.early 1 (.early 2 (.early 3 (.early 4 (.early 5 (.fork [(6, .done)])))))))) (.seq .leaf .leaf)))))))))))))))))
def vc12 (h : Option Addr) (off : Int) (data : Sl) (more : Bool) (w : World) (R : SV → World → Prop) : Prop := ∀ (b : Nat) (w1 : World), Upd [] [b] w w1
  → Ret Try.prog 32 [SV.ptr h, SV.int IntKind.i64 off, SV.slice data, SV.bool more] w1 fun (r : SV) (w1_1 : World) => ∃ (n : Int), r = SV.int IntKind.i64
  n ∧ Keeps [b] w1 w1_1 ∧ Br (n != 0) (∀ (w1 : World), Upd [b] [] w1_1 w1 → R (SV.tuple [SV.struct [SV.int IntKind.i64 0, SV.int IntKind.i64 0, SV.bool false],
  SV.int IntKind.i64 n]) w1) (∀ (J : World → Prop), (∀ (w1 : World), (∀ (b_1 : Nat) (J : Sl → Int → Int → Bool → World → Prop), (∀ (s : Sl) (n n_1 : Int)
  (b_2 : Bool) (w1 : World), (deref h fun (a : Addr) => Store w1 (Addr.add a 2) (SV.cells (SV.slice s)) [b, b_1] fun (w1 : World) => ∀ (J : World → Prop),
  (∀ (w1 : World), (deref h fun (a : Addr) => ∃ (n_2 : Int), World.cell? w1 (Addr.add a 4) = some (Value.int IntKind.i64 n_2) ∧ deref h fun (a : Addr) =>
  ∀ (w1_2 : World), Upd [] [] w1 w1_2 → Store w1_2 (Addr.add a 4) (SV.cells (SV.int IntKind.i64 (wr IntKind.i64 (n_2 + n)))) [b, b_1] fun (w1 : World) =>
  ∀ (b_3 : Nat) (w1_3 : World), Upd [b_1] [b_3] w1 w1_3 → deref h fun (a : Addr) => ∃ (r : Option Nat), World.cell? w1_3 (Addr.add a 5) = some (Value.map
  r) ∧ (derefN r fun (r : Nat) => ∀ (w1 : World), Upd [] [] w1_3 w1 → Program.underlying Try.prog 74 = some (TypeDesc.map 80 81) ∧ ∃ (l : List (Value × SV)),
  MapL w1 r l ∧ KeysOk Try.prog 80 (SV.enc (SV.struct [SV.int IntKind.i64 off, SV.int IntKind.i64 (↑data.2 : Int), SV.bool more])) l ∧ AllShape (Ty.struct
  false []) l ∧ ∀ (b_4 : Bool), Vc.Found l (SV.enc (SV.struct [SV.int IntKind.i64 off, SV.int IntKind.i64 (↑data.2 : Int), SV.bool more])) (SV.struct [])
  (SV.struct []) b_4 → ∀ (b_5 : Nat), Upd [] [] w1_3 w1 ∧ Br b_4 (deref h fun (a : Addr) => ∃ (s : Sl), World.cell? w1 (Addr.add a 1) = some (Sl.val s) ∧
  Need (decide (0 ≤ wr IntKind.i64 (off + (↑data.2 : Int))) && decide (wr IntKind.i64 (off + (↑data.2 : Int)) ≤ (↑s.3 : Int)) && (decide (0 ≤ off) && decide
  (off ≤ (↑(Int.toNat (wr IntKind.i64 (off + (↑data.2 : Int)))) : Int)))) (∀ (w1_4 : World), Upd [] [b_5] w1 w1_4 → Ret Try.prog 33 [SV.slice (Sl.sub s 1
  (Int.toNat off) (Int.toNat (wr IntKind.i64 (off + (↑data.2 : Int)))) s.3), SV.slice data] w1_4 fun (r : SV) (w1 : World) => ∃ (b_6 : Bool), r = SV.bool
  b_6 ∧ Keeps [b, b_1, b_3, b_5] w1_4 w1 ∧ ∀ (w1_5 : World), Upd [b_1] [] w1 w1_5 → deref h fun (a : Addr) => ∃ (r : Option Nat), World.cell? w1_5 (Addr.add
  a 5) = some (Value.map r) ∧ derefN r fun (r : Nat) => ∀ (w1 : World), Upd [] [] w1_5 w1 → Program.underlying Try.prog 74 = some (TypeDesc.map 80 81) ∧ ¬r
  ∈ [b, b_1, b_3, b_5] ∧ ∃ (l : List (Value × SV)), MapL w1 r l ∧ KeysOk Try.prog 80 (SV.enc (SV.struct [SV.int IntKind.i64 off, SV.int IntKind.i64 (↑data.2
  : Int), SV.bool more])) l ∧ ∀ (l' : List (Value × SV)) (w1_6 : World), SetAt l (SV.enc (SV.struct [SV.int IntKind.i64 off, SV.int IntKind.i64 (↑data.2 :
  Int), SV.bool more])) (SV.struct []) l' → Upd [r] [] w1 w1_6 → MapL w1_6 r l' → ∀ (w1 : World), Upd [b] [] w1_6 w1 → R (SV.tuple [SV.struct [SV.int IntKind.i64
  n, SV.int IntKind.i64 (wr IntKind.i64 ((↑data.2 : Int) - n)), SV.bool b_6], SV.int IntKind.i64 0]) w1)) (∀ (w1_4 : World), Upd [b_1] [b_5] w1 w1_4 → deref
  h fun (a : Addr) => ∃ (r : Option Nat), World.cell? w1_4 (Addr.add a 5) = some (Value.map r) ∧ derefN r fun (r : Nat) => ∀ (w1 : World), Upd [] [] w1_4
  w1 → Program.underlying Try.prog 74 = some (TypeDesc.map 80 81) ∧ ¬r ∈ [b, b_1, b_3, b_5] ∧ ∃ (l : List (Value × SV)), MapL w1 r l ∧ KeysOk Try.prog 80
  (SV.enc (SV.struct [SV.int IntKind.i64 off, SV.int IntKind.i64 (↑data.2 : Int), SV.bool more])) l ∧ ∀ (l' : List (Value × SV)) (w1_5 : World), SetAt l (SV.enc
  (SV.struct [SV.int IntKind.i64 off, SV.int IntKind.i64 (↑data.2 : Int), SV.bool more])) (SV.struct []) l' → Upd [r] [] w1 w1_5 → MapL w1_5 r l' → ∀ (w1
  : World), Upd [b] [] w1_5 w1 → R (SV.tuple [SV.struct [SV.int IntKind.i64 n, SV.int IntKind.i64 (wr IntKind.i64 ((↑data.2 : Int) - n)), SV.bool false],
  SV.int IntKind.i64 0]) w1)) ∧ ∀ (b_4 : Nat), Upd [] [] w1_3 w1_3 ∧ derefN r fun (r : Nat) => ∀ (w1 : World), Upd [] [b_4] w1_3 w1 → Program.underlying Try.prog
  74 = some (TypeDesc.map 80 81) ∧ ∃ (l : List (Value × SV)), MapL w1 r l ∧ KeysOk Try.prog 80 (SV.enc (SV.struct [SV.int IntKind.i64 off, SV.int IntKind.i64
  (↑data.2 : Int), SV.bool more])) l ∧ AllShape (Ty.struct false []) l ∧ ∀ (b_5 : Bool), Vc.Found l (SV.enc (SV.struct [SV.int IntKind.i64 off, SV.int IntKind.i64
  (↑data.2 : Int), SV.bool more])) (SV.struct []) (SV.struct []) b_5 → Br b_5 (deref h fun (a : Addr) => ∀ (w1_4 : World), Upd [b_4] [] w1 w1_4 → ∃ (s : Sl),
  World.cell? w1_4 (Addr.add a 1) = some (Sl.val s) ∧ Need (decide (0 ≤ wr IntKind.i64 (off + (↑data.2 : Int))) && decide (wr IntKind.i64 (off + (↑data.2
  : Int)) ≤ (↑s.3 : Int)) && (decide (0 ≤ off) && decide (off ≤ (↑(Int.toNat (wr IntKind.i64 (off + (↑data.2 : Int)))) : Int)))) (Ret Try.prog 33 [SV.slice
  (Sl.sub s 1 (Int.toNat off) (Int.toNat (wr IntKind.i64 (off + (↑data.2 : Int)))) s.3), SV.slice data] w1_4 fun (r : SV) (w1 : World) => ∃ (b_6 : Bool),
  r = SV.bool b_6 ∧ Keeps [b, b_1, b_3, b_4] w1_4 w1 ∧ ∀ (w1_5 : World), Upd [b_1] [] w1 w1_5 → deref h fun (a : Addr) => ∃ (r : Option Nat), World.cell?
  w1_5 (Addr.add a 5) = some (Value.map r) ∧ derefN r fun (r : Nat) => ∀ (w1 : World), Upd [] [] w1_5 w1 → Program.underlying Try.prog 74 = some (TypeDesc.map
  80 81) ∧ ¬r ∈ [b, b_1, b_3, b_4] ∧ ∃ (l : List (Value × SV)), MapL w1 r l ∧ KeysOk Try.prog 80 (SV.enc (SV.struct [SV.int IntKind.i64 off, SV.int IntKind.i64
  (↑data.2 : Int), SV.bool more])) l ∧ ∀ (l' : List (Value × SV)) (w1_6 : World), SetAt l (SV.enc (SV.struct [SV.int IntKind.i64 off, SV.int IntKind.i64 (↑data.2
  : Int), SV.bool more])) (SV.struct []) l' → Upd [r] [] w1 w1_6 → MapL w1_6 r l' → ∀ (w1 : World), Upd [b] [] w1_6 w1 → R (SV.tuple [SV.struct [SV.int IntKind.i64
  n, SV.int IntKind.i64 (wr IntKind.i64 ((↑data.2 : Int) - n)), SV.bool b_6], SV.int IntKind.i64 0]) w1)) (∀ (w1_4 : World), Upd [b_1, b_4] [] w1 w1_4 → deref
  h fun (a : Addr) => ∃ (r : Option Nat), World.cell? w1_4 (Addr.add a 5) = some (Value.map r) ∧ derefN r fun (r : Nat) => ∀ (w1 : World), Upd [] [] w1_4
  w1 → Program.underlying Try.prog 74 = some (TypeDesc.map 80 81) ∧ ¬r ∈ [b, b_1, b_3, b_4] ∧ ∃ (l : List (Value × SV)), MapL w1 r l ∧ KeysOk Try.prog 80
  (SV.enc (SV.struct [SV.int IntKind.i64 off, SV.int IntKind.i64 (↑data.2 : Int), SV.bool more])) l ∧ ∀ (l' : List (Value × SV)) (w1_5 : World), SetAt l (SV.enc
  (SV.struct [SV.int IntKind.i64 off, SV.int IntKind.i64 (↑data.2 : Int), SV.bool more])) (SV.struct []) l' → Upd [r] [] w1 w1_5 → MapL w1_5 r l' → ∀ (w1
  : World), Upd [b] [] w1_5 w1 → R (SV.tuple [SV.struct [SV.int IntKind.i64 n, SV.int IntKind.i64 (wr IntKind.i64 ((↑data.2 : Int) - n)), SV.bool false],
  SV.int IntKind.i64 0]) w1)) → J w1) → Br (!more) (deref h fun (a : Addr) => ∃ (n_2 : Int), World.cell? w1 (Addr.add a 3) = some (Value.int IntKind.i64 n_2)
  ∧ Br (decide (n_2 < 0)) (deref h fun (a : Addr) => Store w1 (Addr.add a 3) (SV.cells (SV.int IntKind.i64 (wr IntKind.i64 (off + (↑data.2 : Int))))) [b,
  b_1] fun (w1 : World) => deref h fun (a : Addr) => ∃ (s : Sl), World.cell? w1 (Addr.add a 2) = some (Sl.val s) ∧ Br (decide ((↑s.2 : Int) > 0)) (deref h
  fun (a : Addr) => ∃ (s_1 : Sl), World.cell? w1 (Addr.add a 2) = some (Sl.val s_1) ∧ Need (decide (0 ≤ wr IntKind.i64 ((↑s.2 : Int) - 1)) && decide (wr IntKind.i64
  ((↑s.2 : Int) - 1) < (↑s_1.2 : Int)) && Option.isSome s_1.1) (∃ (n_3 : Int), World.cell? w1 (Addr.add (Sl.at s_1 2 (Int.toNat (wr IntKind.i64 ((↑s.2 : Int)
  - 1)))) 1) = some (Value.int IntKind.i64 n_3) ∧ deref h fun (a : Addr) => ∃ (n_4 : Int), World.cell? w1 a = some (Value.int IntKind.i64 n_4) ∧ Br (n_3 ==
  n_4) (deref h fun (a : Addr) => ∃ (s_2 : Sl), World.cell? w1 (Addr.add a 2) = some (Sl.val s_2) ∧ Need (decide (0 ≤ wr IntKind.i64 ((↑s.2 : Int) - 1)) &&
  decide (wr IntKind.i64 ((↑s.2 : Int) - 1) < (↑s_2.2 : Int)) && Option.isSome s_2.1) (∀ (w1_2 : World), Upd [] [] w1 w1_2 → Store w1_2 (Addr.add (Sl.at s_2
  2 (Int.toNat (wr IntKind.i64 ((↑s.2 : Int) - 1)))) 1) (SV.cells (SV.int IntKind.i64 (wr IntKind.i64 (off + (↑data.2 : Int))))) [b, b_1] fun (w1 : World)
  => deref h fun (a : Addr) => ∃ (s_3 : Sl), World.cell? w1 (Addr.add a 2) = some (Sl.val s_3) ∧ Need (decide (0 ≤ wr IntKind.i64 ((↑s.2 : Int) - 1)) && decide
  (wr IntKind.i64 ((↑s.2 : Int) - 1) < (↑s_3.2 : Int)) && Option.isSome s_3.1) (∃ (n_5 : Int), World.cell? w1 (Addr.add (Sl.at s_3 2 (Int.toNat (wr IntKind.i64
  ((↑s.2 : Int) - 1)))) 0) = some (Value.int IntKind.i64 n_5) ∧ Br (decide (n_5 ≥ wr IntKind.i64 (off + (↑data.2 : Int)))) (deref h fun (a : Addr) => ∃ (s_4
  : Sl), World.cell? w1 (Addr.add a 2) = some (Sl.val s_4) ∧ Need (decide (0 ≤ wr IntKind.i64 ((↑s.2 : Int) - 1)) && decide (wr IntKind.i64 ((↑s.2 : Int)
  - 1) ≤ (↑s_4.3 : Int))) (deref h fun (a : Addr) => Store w1 (Addr.add a 2) (SV.cells (SV.slice (Sl.sub s_4 2 0 (Int.toNat (wr IntKind.i64 ((↑s.2 : Int)
  - 1))) s_4.3))) [b, b_1] fun (w1 : World) => some (SV.box b 31 (SV.struct [SV.int IntKind.i64 0, SV.int IntKind.i64 0, SV.bool false])) = some (SV.box b
  31 (SV.struct [SV.int IntKind.i64 0, SV.int IntKind.i64 0, SV.bool false])) ∧ some (SV.box b_1 31 (SV.struct [SV.int IntKind.i64 n, SV.int IntKind.i64 n_1,
  SV.bool b_2])) = some (SV.box b_1 31 (SV.struct [SV.int IntKind.i64 n, SV.int IntKind.i64 n_1, SV.bool b_2])) ∧ J w1)) (some (SV.box b 31 (SV.struct [SV.int
  IntKind.i64 0, SV.int IntKind.i64 0, SV.bool false])) = some (SV.box b 31 (SV.struct [SV.int IntKind.i64 0, SV.int IntKind.i64 0, SV.bool false])) ∧ some
  (SV.box b_1 31 (SV.struct [SV.int IntKind.i64 n, SV.int IntKind.i64 n_1, SV.bool b_2])) = some (SV.box b_1 31 (SV.struct [SV.int IntKind.i64 n, SV.int IntKind.i64
  n_1, SV.bool b_2])) ∧ J w1)))) (∀ (w1_2 : World), Upd [] [] w1 w1_2 → some (SV.box b 31 (SV.struct [SV.int IntKind.i64 0, SV.int IntKind.i64 0, SV.bool
  false])) = some (SV.box b 31 (SV.struct [SV.int IntKind.i64 0, SV.int IntKind.i64 0, SV.bool false])) ∧ some (SV.box b_1 31 (SV.struct [SV.int IntKind.i64
  n, SV.int IntKind.i64 n_1, SV.bool b_2])) = some (SV.box b_1 31 (SV.struct [SV.int IntKind.i64 n, SV.int IntKind.i64 n_1, SV.bool b_2])) ∧ J w1_2))) (∀
  (w1_2 : World), Upd [] [] w1 w1_2 → some (SV.box b 31 (SV.struct [SV.int IntKind.i64 0, SV.int IntKind.i64 0, SV.bool false])) = some (SV.box b 31 (SV.struct
  [SV.int IntKind.i64 0, SV.int IntKind.i64 0, SV.bool false])) ∧ some (SV.box b_1 31 (SV.struct [SV.int IntKind.i64 n, SV.int IntKind.i64 n_1, SV.bool b_2]))
  = some (SV.box b_1 31 (SV.struct [SV.int IntKind.i64 n, SV.int IntKind.i64 n_1, SV.bool b_2])) ∧ J w1_2)) (some (SV.box b 31 (SV.struct [SV.int IntKind.i64
  0, SV.int IntKind.i64 0, SV.bool false])) = some (SV.box b 31 (SV.struct [SV.int IntKind.i64 0, SV.int IntKind.i64 0, SV.bool false])) ∧ some (SV.box b_1
  31 (SV.struct [SV.int IntKind.i64 n, SV.int IntKind.i64 n_1, SV.bool b_2])) = some (SV.box b_1 31 (SV.struct [SV.int IntKind.i64 n, SV.int IntKind.i64 n_1,
  SV.bool b_2])) ∧ J w1)) (some (SV.box b 31 (SV.struct [SV.int IntKind.i64 0, SV.int IntKind.i64 0, SV.bool false])) = some (SV.box b 31 (SV.struct [SV.int
  IntKind.i64 0, SV.int IntKind.i64 0, SV.bool false])) ∧ some (SV.box b_1 31 (SV.struct [SV.int IntKind.i64 n, SV.int IntKind.i64 n_1, SV.bool b_2])) = some
  (SV.box b_1 31 (SV.struct [SV.int IntKind.i64 n, SV.int IntKind.i64 n_1, SV.bool b_2])) ∧ J w1)) → J s n n_1 b_2 w1) → deref h fun (a : Addr) => ∃ (s :
  Sl), World.cell? w1 (Addr.add a 2) = some (Sl.val s) ∧ ∃ (I : Sl → Int → Int → Int → Bool → World → Prop), ∃ (M : Sl → Int → Int → Int → Bool → World →
  Nat), (∀ (w1_2 : World), Upd [] [b_1] w1 w1_2 → I { ptr := none, len := 0, cap := 0 } 0 0 0 false w1_2) ∧ ∀ (s_1 : Sl) (n n_1 n_2 : Int) (b_2 : Bool) (w1
  : World), I s_1 n n_1 n_2 b_2 w1 → Br (decide (n < (↑s.2 : Int))) (Need (decide (0 ≤ n) && decide (n < (↑s.2 : Int)) && Option.isSome s.1) (∃ (f : Nat →
  Int), (∀ (i : Nat), i < 2 → World.cell? w1 (Addr.add (Sl.at s 2 (Int.toNat n)) (0 + i)) = some (Value.int IntKind.i64 (f i))) ∧ ∀ (b_3 : Nat), Br (decide
  (f 0 ≥ wr IntKind.i64 (off + (↑data.2 : Int)))) (deref h fun (a : Addr) => ∃ (s : Sl), World.cell? w1 (Addr.add a 2) = some (Sl.val s) ∧ Need (decide (0
  ≤ n) && decide (n ≤ (↑s.2 : Int))) (∀ (w1_2 : World), Upd [] [b_3] w1 w1_2 → Vc.Append 29 2 16 s_1 (Sl.sub s 2 (Int.toNat n) s.2 s.3) [b, b_1, b_3] w1_2
  fun (r : Sl) (w : World) => some (SV.box b 31 (SV.struct [SV.int IntKind.i64 0, SV.int IntKind.i64 0, SV.bool false])) = some (SV.box b 31 (SV.struct [SV.int
  IntKind.i64 0, SV.int IntKind.i64 0, SV.bool false])) ∧ (b_1, 31) = (b_1, 31) ∧ J r n_1 n_2 b_2 w)) (Br (decide (f 1 ≤ off)) (∀ (w1_2 : World), Upd [] [b_3]
  w1 w1_2 → ∀ (b_4 : Nat) (w1_3 : World), Upd [] [b_4] w1_2 w1_3 → (World.heap w1_3)[b_4]? = some (Obj.cells { toList := SV.cells (SV.struct [SV.arr IntKind.i64 2 f]) }
  29) → Vc.Append 29 2 16 s_1 { ptr := some { block := b_4, off := 0 }, len := 1, cap := 1 } [b, b_1, b_3] w1_3 fun (r : Sl) (w : World) => some (SV.box b
  31 (SV.struct [SV.int IntKind.i64 0, SV.int IntKind.i64 0, SV.bool false])) = some (SV.box b 31 (SV.struct [SV.int IntKind.i64 0, SV.int IntKind.i64 0,
  SV.bool false])) ∧ (b_1, 31) = (b_1, 31) ∧ I r (wr IntKind.i64 (n + 1)) n_1 n_2 b_2 w ∧ M r (wr IntKind.i64 (n + 1)) n_1 n_2 b_2 w < M s_1 n n_1 n_2 b_2
  w1) (∀ (w1_2 : World), Upd [] [b_3] w1 w1_2 → ∃ (bs : List Nat), (∀ (b : Nat), b ∈ bs → b < List.length (World.heap w1_2).1) ∧ deref h fun (a : Addr) =>
  Addr.block (Addr.add a 1) ∈ bs ∧ ∃ (s : Sl), World.cell? w1_2 (Addr.add a 1) = some (Sl.val s) ∧ Need (decide (0 ≤ imin (f 1) (wr IntKind.i64 (off + (↑data.2
  : Int)))) && decide (imin (f 1) (wr IntKind.i64 (off + (↑data.2 : Int))) ≤ (↑s.3 : Int)) && (decide (0 ≤ imax (f 0) off) && decide (imax (f 0) off ≤ (↑(Int.toNat
  (imin (f 1) (wr IntKind.i64 (off + (↑data.2 : Int))))) : Int)))) (Need (decide (0 ≤ wr IntKind.i64 (imin (f 1) (wr IntKind.i64 (off + (↑data.2 : Int)))
  - off)) && decide (wr IntKind.i64 (imin (f 1) (wr IntKind.i64 (off + (↑data.2 : Int))) - off) ≤ (↑data.3 : Int)) && (decide (0 ≤ wr IntKind.i64 (imax (f
  0) off - off)) && decide (wr IntKind.i64 (imax (f 0) off - off) ≤ (↑(Int.toNat (wr IntKind.i64 (imin (f 1) (wr IntKind.i64 (off + (↑data.2 : Int))) - off)))
  : Int)))) (∀ (w1_3 : World), Upd [] [] w1_2 w1_3 → Copy 1 (Sl.sub s 1 (Int.toNat (imax (f 0) off)) (Int.toNat (imin (f 1) (wr IntKind.i64 (off + (↑data.2
  : Int))))) s.3) (Sl.sub data 1 (Int.toNat (wr IntKind.i64 (imax (f 0) off - off))) (Int.toNat (wr IntKind.i64 (imin (f 1) (wr IntKind.i64 (off + (↑data.2
  : Int))) - off))) data.3) [b, b_1, b_3] w1_3 fun (w : World) => Kept bs w1_2 w ∧ ∀ (J : Sl → World → Prop), (∀ (s_2 : Sl) (w1_4 : World), Br (decide (imin
  (f 1) (wr IntKind.i64 (off + (↑data.2 : Int))) < f 1)) (∀ (b_4 : Nat) (w1_5 : World), Upd [] [b_4] w1_4 w1_5 → (World.heap w1_5)[b_4]? = some (Obj.cells
  { toList := SV.cells (SV.struct [SV.arr IntKind.i64 2 (fset (fset (fun (x : Nat) => 0) 0 (imin (f 1) (wr IntKind.i64 (off + (↑data.2 : Int))))) 1 (f 1))]) }
  29) → Vc.Append 29 2 16 s_2 { ptr := some { block := b_4, off := 0 }, len := 1, cap := 1 } [b, b_1, b_3] w1_5 fun (r : Sl) (w : World) => some (SV.box b
  31 (SV.struct [SV.int IntKind.i64 0, SV.int IntKind.i64 0, SV.bool false])) = some (SV.box b 31 (SV.struct [SV.int IntKind.i64 0, SV.int IntKind.i64 0,
  SV.bool false])) ∧ (b_1, 31) = (b_1, 31) ∧ I r (wr IntKind.i64 (n + 1)) (wr IntKind.i64 (n_1 + (↑(Nat.min (Sl.sub data 1 (Int.toNat (wr IntKind.i64 (imax
  (f 0) off - off))) (Int.toNat (wr IntKind.i64 (imin (f 1) (wr IntKind.i64 (off + (↑data.2 : Int))) - off))) data.3).2 (Sl.sub s 1 (Int.toNat (imax (f 0)
  off)) (Int.toNat (imin (f 1) (wr IntKind.i64 (off + (↑data.2 : Int))))) s.3).2) : Int))) n_2 b_2 w ∧ M r (wr IntKind.i64 (n + 1)) (wr IntKind.i64 (n_1 +
  (↑(Nat.min (Sl.sub data 1 (Int.toNat (wr IntKind.i64 (imax (f 0) off - off))) (Int.toNat (wr IntKind.i64 (imin (f 1) (wr IntKind.i64 (off + (↑data.2 : Int)))
  - off))) data.3).2 (Sl.sub s 1 (Int.toNat (imax (f 0) off)) (Int.toNat (imin (f 1) (wr IntKind.i64 (off + (↑data.2 : Int))))) s.3).2) : Int))) n_2 b_2 w
  < M s_1 n n_1 n_2 b_2 w1) (some (SV.box b 31 (SV.struct [SV.int IntKind.i64 0, SV.int IntKind.i64 0, SV.bool false])) = some (SV.box b 31 (SV.struct [SV.int
  IntKind.i64 0, SV.int IntKind.i64 0, SV.bool false])) ∧ (b_1, 31) = (b_1, 31) ∧ I s_2 (wr IntKind.i64 (n + 1)) (wr IntKind.i64 (n_1 + (↑(Nat.min (Sl.sub
  data 1 (Int.toNat (wr IntKind.i64 (imax (f 0) off - off))) (Int.toNat (wr IntKind.i64 (imin (f 1) (wr IntKind.i64 (off + (↑data.2 : Int))) - off))) data.3).2
  (Sl.sub s 1 (Int.toNat (imax (f 0) off)) (Int.toNat (imin (f 1) (wr IntKind.i64 (off + (↑data.2 : Int))))) s.3).2) : Int))) n_2 b_2 w1_4 ∧ M s_2 (wr IntKind.i64
  (n + 1)) (wr IntKind.i64 (n_1 + (↑(Nat.min (Sl.sub data 1 (Int.toNat (wr IntKind.i64 (imax (f 0) off - off))) (Int.toNat (wr IntKind.i64 (imin (f 1) (wr
  IntKind.i64 (off + (↑data.2 : Int))) - off))) data.3).2 (Sl.sub s 1 (Int.toNat (imax (f 0) off)) (Int.toNat (imin (f 1) (wr IntKind.i64 (off + (↑data.2
  : Int))))) s.3).2) : Int))) n_2 b_2 w1_4 < M s_1 n n_1 n_2 b_2 w1) → J s_2 w1_4) → Br (decide (f 0 < imax (f 0) off)) (∀ (b_4 : Nat) (w1 : World), Upd [b_1]
  [b_4] w w1 → (World.heap w1)[b_4]? = some (Obj.cells { toList := SV.cells (SV.struct [SV.arr IntKind.i64 2 (fset (fset (fun (x : Nat) => 0) 0 (f 0)) 1 (imax (f 0) off))]) }
  29) → Vc.Append 29 2 16 s_1 { ptr := some { block := b_4, off := 0 }, len := 1, cap := 1 } [b, b_1, b_3] w1 fun (r : Sl) (w : World) => some (SV.box b 31
  (SV.struct [SV.int IntKind.i64 0, SV.int IntKind.i64 0, SV.bool false])) = some (SV.box b 31 (SV.struct [SV.int IntKind.i64 0, SV.int IntKind.i64 0, SV.bool
  false])) ∧ some (SV.box b_1 31 (SV.struct [SV.int IntKind.i64 (wr IntKind.i64 (n_1 + (↑(Nat.min (Sl.sub data 1 (Int.toNat (wr IntKind.i64 (imax (f 0) off
  - off))) (Int.toNat (wr IntKind.i64 (imin (f 1) (wr IntKind.i64 (off + (↑data.2 : Int))) - off))) data.3).2 (Sl.sub s 1 (Int.toNat (imax (f 0) off)) (Int.toNat
  (imin (f 1) (wr IntKind.i64 (off + (↑data.2 : Int))))) s.3).2) : Int))), SV.int IntKind.i64 n_2, SV.bool b_2])) = some (SV.box b_1 31 (SV.struct [SV.int
  IntKind.i64 (wr IntKind.i64 (n_1 + (↑(Nat.min (Sl.sub data 1 (Int.toNat (wr IntKind.i64 (imax (f 0) off - off))) (Int.toNat (wr IntKind.i64 (imin (f 1)
  (wr IntKind.i64 (off + (↑data.2 : Int))) - off))) data.3).2 (Sl.sub s 1 (Int.toNat (imax (f 0) off)) (Int.toNat (imin (f 1) (wr IntKind.i64 (off + (↑data.2
  : Int))))) s.3).2) : Int))), SV.int IntKind.i64 n_2, SV.bool b_2])) ∧ some (SV.box b_3 29 (SV.arr IntKind.i64 2 f)) = some (SV.box b_3 29 (SV.arr IntKind.i64
  2 f)) ∧ J r w) (∀ (w1 : World), Upd [b_1] [] w w1 → some (SV.box b 31 (SV.struct [SV.int IntKind.i64 0, SV.int IntKind.i64 0, SV.bool false])) = some (SV.box
  b 31 (SV.struct [SV.int IntKind.i64 0, SV.int IntKind.i64 0, SV.bool false])) ∧ some (SV.box b_1 31 (SV.struct [SV.int IntKind.i64 (wr IntKind.i64 (n_1
  + (↑(Nat.min (Sl.sub data 1 (Int.toNat (wr IntKind.i64 (imax (f 0) off - off))) (Int.toNat (wr IntKind.i64 (imin (f 1) (wr IntKind.i64 (off + (↑data.2 :
  Int))) - off))) data.3).2 (Sl.sub s 1 (Int.toNat (imax (f 0) off)) (Int.toNat (imin (f 1) (wr IntKind.i64 (off + (↑data.2 : Int))))) s.3).2) : Int))), SV.int
  IntKind.i64 n_2, SV.bool b_2])) = some (SV.box b_1 31 (SV.struct [SV.int IntKind.i64 (wr IntKind.i64 (n_1 + (↑(Nat.min (Sl.sub data 1 (Int.toNat (wr IntKind.i64
  (imax (f 0) off - off))) (Int.toNat (wr IntKind.i64 (imin (f 1) (wr IntKind.i64 (off + (↑data.2 : Int))) - off))) data.3).2 (Sl.sub s 1 (Int.toNat (imax
  (f 0) off)) (Int.toNat (imin (f 1) (wr IntKind.i64 (off + (↑data.2 : Int))))) s.3).2) : Int))), SV.int IntKind.i64 n_2, SV.bool b_2])) ∧ some (SV.box b_3
  29 (SV.arr IntKind.i64 2 f)) = some (SV.box b_3 29 (SV.arr IntKind.i64 2 f)) ∧ J s_1 w1))))))) (some (SV.box b 31 (SV.struct [SV.int IntKind.i64 0, SV.int
  IntKind.i64 0, SV.bool false])) = some (SV.box b 31 (SV.struct [SV.int IntKind.i64 0, SV.int IntKind.i64 0, SV.bool false])) ∧ (b_1, 31) = (b_1, 31) ∧ J
  s_1 n_1 n_2 b_2 w1)) → J w1) → deref h fun (a : Addr) => ∃ (s : Sl), World.cell? w1_1 (Addr.add a 1) = some (Sl.val s) ∧ Br (decide ((↑s.2 : Int) < wr IntKind.i64
  (off + (↑data.2 : Int)))) (deref h fun (a : Addr) => ∃ (s : Sl), World.cell? w1_1 (Addr.add a 1) = some (Sl.val s) ∧ deref h fun (a : Addr) => ∃ (s_1 :
  Sl), World.cell? w1_1 (Addr.add a 1) = some (Sl.val s_1) ∧ ∀ (w1 : World), Upd [] [] w1_1 w1 → Need (decide (0 ≤ wr IntKind.i64 (wr IntKind.i64 (off + (↑data.2
  : Int)) - (↑s_1.2 : Int))) && decide (wr IntKind.i64 (wr IntKind.i64 (off + (↑data.2 : Int)) - (↑s_1.2 : Int)) ≤ 281474976710656) && decide (wr IntKind.i64
  (wr IntKind.i64 (off + (↑data.2 : Int)) - (↑s_1.2 : Int)) * 1 ≤ 281474976710656)) (AppendN 5 1 1 s (Int.toNat (wr IntKind.i64 (wr IntKind.i64 (off + (↑data.2
  : Int)) - (↑s_1.2 : Int)))) (zerosOf (Ty.int IntKind.u8) (Int.toNat (wr IntKind.i64 (wr IntKind.i64 (off + (↑data.2 : Int)) - (↑s_1.2 : Int))))) [b] w1
  fun (r : Sl) (w : World) => deref h fun (a : Addr) => Store w (Addr.add a 1) (SV.cells (SV.slice r)) [b] fun (w1 : World) => some (SV.box b 31 (SV.struct
  [SV.int IntKind.i64 0, SV.int IntKind.i64 0, SV.bool false])) = some (SV.box b 31 (SV.struct [SV.int IntKind.i64 0, SV.int IntKind.i64 0, SV.bool false]))
  ∧ J w1)) (some (SV.box b 31 (SV.struct [SV.int IntKind.i64 0, SV.int IntKind.i64 0, SV.bool false])) = some (SV.box b 31 (SV.struct [SV.int IntKind.i64
  0, SV.int IntKind.i64 0, SV.bool false])) ∧ J w1_1))
theorem f12_of (h : Option Addr) (off : Int) (data : Sl) (more : Bool) (w : World) (R : SV → World → Prop) (hV : vc12 h off data more w R) : Ret Try.prog 12 [.ptr h, .int .i64 off, .slice data, .bool more] w R :=
  have e : vc12 h off data more w R = fnVC X Try.f12 a1012 [.ptr h, .int .i64 off, .slice data, .bool more] w R := by kernel_rfl
  fnVC_sound X_ok (n := a1012) (e ▸ hV) (by kernel_rfl) (by kernel_rfl) rfl rfl

end Go.Vc.S11
end

section
open Go Go.Vc Go.Proofs
set_option linter.unusedVariables false
set_option linter.unusedSimpArgs false
set_option autoImplicit false
namespace Go.Vc.S11
theorem und74 : Try.prog.underlying 74 = some (.map 80 81) := by kernel_rfl
theorem keyLaw80 : Go.WideMaps.KeyLaw Try.prog 80 := deep_law_laid (by kernel_rfl) (m := 5) (by omega) (Nat.le_of_ble_eq_true (by kernel_rfl)) (by kernel_rfl) (by kernel_rfl)
noncomputable def und80f : Array Field := match Try.prog.underlying 80 with | some (.struct fs) => fs | _ => #[]
theorem und80 : Try.prog.underlying 80 = some (.struct und80f) := by kernel_rfl
theorem u3 : Try.prog.underlying 3 = some (.int .i64) := by kernel_rfl
theorem u4 : Try.prog.underlying 4 = some .bool := by kernel_rfl
theorem c80 : Try.prog.cellsOf 80 = 3 := by kernel_rfl
theorem c3' : Try.prog.cellsOf 3 = 1 := by kernel_rfl
theorem c4' : Try.prog.cellsOf 4 = 1 := by kernel_rfl
theorem f80 : und80f.toList.map (fun f => (f.type, f.offset)) = [(3, 0), (3, 1), (4, 2)] := by kernel_rfl
theorem f80n : und80f.all (·.name != "_") = true := by kernel_rfl
theorem kt80 : Try.prog.keyType 80 = true := by kernel_rfl
theorem mapM_of {α β : Type} {g : α → Nat × Nat} {F : Nat × Nat → Option β} : ∀ (l : List α), l.mapM (fun f => F (g f)) = (l.map g).mapM F
  | [] => rfl
  | x :: r => by simp only [List.mapM_cons, List.map_cons, mapM_of r]
theorem tsz : ∃ n, Try.prog.types.size + 1 = n + 2 := ⟨Try.prog.types.size - 1, by have : 1 ≤ Try.prog.types.size := Nat.le_of_ble_eq_true (by kernel_rfl); omega⟩
/-- is it a key? -/
def KeyR (k : Int × Int × Bool) : Prop := (-9223372036854775808 ≤ k.1 ∧ k.1 ≤ 9223372036854775807) ∧ -9223372036854775808 ≤ k.2.1 ∧ k.2.1 ≤ 9223372036854775807
theorem lit_wf {n : Int} (h1 : -9223372036854775808 ≤ n) (h2 : n ≤ 9223372036854775807) : (Lit.int .i64 n).wf = true := by
  simp [Lit.wf, IntKind.min, IntKind.max, IntKind.wrap, IntKind.bits, IntKind.signed]
  try omega
theorem key_ok {k : Int × Int × Bool} (h : KeyR k) : ∃ lx, keyOf Try.prog 80 (keyS k).enc = some lx := by
  obtain ⟨n, hn⟩ := tsz
  have w1 := lit_wf h.1.1 h.1.2
  have w2 := lit_wf h.2.1 h.2.2
  have hf : Value.formed Try.prog 80 (keyS k).enc = true := by
    simp [Value.formed, keyS, SV.enc, SV.cellsL, SV.cells, und80, c80]
  unfold keyOf
  rw [und80, hn]
  simp only [kt80, hf, Bool.and_self, if_true]
  have e := mapM_of (g := fun f : Field => (f.type, f.offset)) (F := fun p => Try.prog.keyLits (n + 1) p.1 (((keyS k).enc.cells.toList.drop p.2).take (Try.prog.cellsOf p.1))) und80f.toList
  have hl : (keyS k).enc.cells.toList = [.int .i64 k.1, .int .i64 k.2.1, .bool k.2.2] := by simp [keyS, SV.enc, SV.cellsL, SV.cells, Value.cells]
  have : Try.prog.keyLits (n + 2) 80 (keyS k).enc.cells.toList = some [.int .i64 k.1, .int .i64 k.2.1, .bool k.2.2] := by
    unfold Program.keyLits
    simp only [und80]
    rw [if_pos ⟨by rw [hl, c80]; rfl, f80n⟩, e, f80]
    rw [hl]
    simp [c3', c4', Program.keyLits, u3, u4, w1, w2]
  rw [this]
  exact ⟨_, rfl⟩
theorem keyS_inj {k k' : Int × Int × Bool} (h : (keyS k).enc = (keyS k').enc) : k = k' := by
  simp [keyS, SV.enc, SV.cellsL, SV.cells] at h
  obtain ⟨a, b, c⟩ := k
  obtain ⟨a', b', c'⟩ := k'
  simp at h ⊢
  exact h
end Go.Vc.S11
end

section
namespace Go.Vc
set_option linter.unusedVariables false
set_option linter.unusedSimpArgs false
set_option autoImplicit false
/-- bytes copied into the middle of one's own -/
theorem copy_win {N lo hi mx : Nat} {w : World} {s x : Sl} {l m : List Int} {bs : List Nat} {F : World → Prop} (h : SeesB w s l) (o : Own N 1 w s) (hx : SeesB w x m) (hhi : hi = lo + m.length) (hhl : hi ≤ l.length) (hmx : hi ≤ mx) (h0 : 0 < m.length) (hbs : ∀ b ∈ s.blk, b ∉ bs)
    (k : ∀ w1, SeesB w1 s (blit l lo m) → Own N 1 w1 s → Upd s.blk [] w w1 → F w1) : Copy 1 (s.sub 1 lo hi mx) x bs w F := by
  subst hhi
  have hlen := h.len
  have hxl := hx.len
  have hle := o.le
  obtain ⟨a, hp⟩ := h.ptr_some (by decide) (by omega)
  obtain ⟨hs, hc⟩ := o.cell a hp
  have hrow := h.row
  rw [hp] at hrow
  have hsp : (s.sub 1 lo (lo + m.length) mx).ptr = some (a.add (lo * 1)) := by
    simp [Sl.sub, hp]; omega
  have hsl : (s.sub 1 lo (lo + m.length) mx).len = m.length := by simp [Sl.sub]
  refine ⟨cU8.cells m, ?_, ?_⟩
  · have := hx.rowAt
    rw [show Nat.min x.len (s.sub 1 lo (lo + m.length) mx).len = x.len by rw [hsl, hxl]; exact Nat.min_self _]
    exact this
  · rw [hsp]
    have hlm : (cU8.cells m).length = m.length := by rw [cU8.cells_length]; simp [cU8]
    refine ⟨fun i hi => ?_, ?_, ?_⟩
    · rw [add_add]
      exact hc _ (by omega)
    · simp only [add_block]
      exact hbs _ (by simp [blk_some hp])
    · show F (w.setCells (a.add (lo * 1)).block (a.add (lo * 1)).off (cU8.cells m))
      rw [off_add hs, add_block]
      refine k _ ⟨by simp [blit]; omega, ?_⟩ (o.setCells _ _ _) ((Upd.setCells w a.block _ _).wide (by simp [blk_some hp]))
      have e2 : Cells w (some a) (cU8.cells (l.take lo) ++ (cU8.cells ((l.drop lo).take m.length) ++ cU8.cells (l.drop (lo + m.length)))) := by
        rw [← cU8.cells_append, ← cU8.cells_append, ← List.drop_drop, List.take_append_drop, List.take_append_drop]; exact hrow
      have l1 : (cU8.cells (l.take lo)).length = lo := by rw [cU8.cells_length, List.length_take]; simp [cU8]; omega
      have l2 : (cU8.cells ((l.drop lo).take m.length)).length = m.length := by rw [cU8.cells_length, List.length_take, List.length_drop]; simp [cU8]; omega
      have r1 := e2.app.1
      have r2 := e2.app.2.app.2
      rw [l1, l2] at r2
      rw [hp]
      unfold blit
      rw [cU8.cells_append, cU8.cells_append]
      refine Cells.mk (Cells.mk ?_ ?_) ?_
      · have := cells_apart (vs := cU8.cells m) hs (lo * 1) 0 (by simpa using r1) (.inl (by rw [l1]; omega))
        simpa using this
      · rw [l1]
        have := cells_write (w := w) (vs := cU8.cells m) hs (lo * 1) (fun i hi => (hc _ (by omega)).1)
        simpa using this
      · have e3 : (cU8.cells (l.take lo) ++ cU8.cells m).length = lo + m.length := by rw [List.length_append, l1, hlm]
        rw [e3]
        have := cells_apart (vs := cU8.cells m) hs (lo * 1) (lo + m.length) (by simpa [add_add] using r2) (.inr (by omega))
        exact this
end Go.Vc
end
