import Derived.Test.YtncgcdicadibbaaG4
import Derived.Test.YtncgcdicadibbaaG5
section
namespace Go.Vc
set_option linter.unusedVariables false
set_option linter.unusedSimpArgs false
set_option autoImplicit false

/-! ### boxes: slices of one element -/
abbrev bxS (b : Nat) : Sl := ⟨some ⟨b, 0, none⟩, 1, 1⟩
section
variable {α : Type} {c : Cod α} {w w1 : World} {b N : Nat} {x y : α}
structure Box (c : Cod α) (w : World) (b : Nat) (x : α) : Prop where
  sees : Sees c w (bxS b) [x]
  own : Own 0 c.sz w (bxS b)
theorem Box.mk' {e : Nat} {cs : List Value} (h : w.heap[b]? = some (.cells cs.toArray e (0, 0))) (hc : cs = c.enc x) : Box c w b x :=
  ⟨sees_row h [x] (by rw [hc]; simp [Cod.cells]) rfl, own_row h (Nat.zero_le _) (by rw [hc, c.len, Nat.one_mul]) (Nat.le_refl _)⟩
theorem Box.upd {m n : List Nat} (h : Box c w b x) (u : Upd m n w w1) (hm : b ∉ m) : Box c w1 b x := ⟨h.sees.upd u (by simpa [Sl.blk] using hm), h.own.upd u (by simpa [Sl.blk] using hm)⟩
theorem Box.old {n : List Nat} (h : Box c w b x) (u : Upd [] n w w1) : Box c w1 b x := h.upd u (by simp)
theorem Box.lt (h : Box c w b x) : b < w.heap.size := (h.own.blk b (by simp [Sl.blk])).2
theorem Box.at_ : (bxS b).at c.sz 0 = ⟨b, 0, none⟩ := by simp [Sl.at]
theorem Box.get (h : Box c w b x) (j : Nat) (hj : j < (c.enc x).length) : w.cell? ((⟨b, 0, none⟩ : Addr).add j) = some (c.enc x)[j] := by
  have := h.sees.elem (i := 0) (by simp) j (by simpa using hj)
  rw [Box.at_] at this
  simpa using this
theorem Box.set {bs : List Nat} {vs : List Value} {F : World → Prop} (h : Box c w b x) (hz : 0 < c.sz) (hv : vs = c.enc y) (hbs : b ∉ bs) (k : ∀ w1, Box c w1 b y → Upd [b] [] w w1 → F w1) : Store w ⟨b, 0, none⟩ vs bs F := by
  have := own_set (i := 0) (x := y) (vs := vs) (bs := bs) (F := F) h.sees h.own hz (by simp) hv (by simpa [Sl.blk] using hbs) fun w1 h1 o1 u1 => k w1 ⟨by simpa using h1, o1⟩ (by simpa [Sl.blk] using u1)
  rwa [Box.at_] at this
end
theorem Box.sl {w : World} {b : Nat} {s : Sl} (h : Box cSl w b s) : w.cell? ⟨b, 0, none⟩ = some s.val := by
  have := h.get 0 (by simp [cSl])
  rwa [add_zero] at this
theorem Box.i64 {w : World} {b : Nat} {n : Int} (h : Box cI64 w b n) : w.cell? ⟨b, 0, none⟩ = some (.int .i64 n) := by
  have := h.get 0 (by simp [cI64])
  rwa [add_zero] at this
theorem intAt {w : World} {s : Sl} {l : List Int} (h : Sees cI64 w s l) (i : Nat) (hi : i < l.length) : w.cell? (s.at 1 i) = some (.int .i64 l[i]) := by
  have := h.elem (i := i) hi 0 (by simp [cI64])
  rwa [add_zero] at this
theorem needI {X : Prop} {w : World} {s : Sl} {l : List Int} (h : Sees cI64 w s l) {i : Int} (h0 : 0 ≤ i) (h1 : i < l.length) (x : X) : Need (decide (0 ≤ i) && decide (i < (s.len : Int)) && s.ptr.isSome) X :=
  needIx h0 (by rw [h.len]; exact h1) (h.isSome (by decide) (by omega)) x
theorem row_ne {w : World} {a b e f : Nat} {x y : Array Value} {g g' : Nat × Nat} (h : w.heap[a]? = some (.cells x e g)) (k : w.heap[b]? = some (.cells y f g')) (hn : e ≠ f) : a ≠ b := by
  rintro rfl
  rw [h] at k
  injection k with k
  injection k with k1 k2 k3
  exact hn k2

/-! ### one bit more -/
theorem u64_id {n : Int} (h : 0 ≤ n) (h1 : n < 64) : wr .u64 n = n := wr_u64 h (by omega)
theorem bit_of {x : Int} {t : Nat} (hx : 0 ≤ x ∧ x < 256) : wr .i64 (iand .u8 (gshr .u8 x (wr .u64 (7 - wr .u64 (Int.tmod (t : Int) 8)))) 1) = x / 2 ^ (7 - t % 8) % 2 := by
  rw [tmod_pos (by omega), u64_id (n := (t : Int) % 8) (by omega) (by omega), u64_id (by omega) (by omega)]
  have e1 : gshr .u8 x (7 - (t : Int) % 8) = x / 2 ^ (7 - t % 8) := by
    unfold gshr
    rw [Int.fdiv_eq_ediv_of_nonneg _ (Int.le_of_lt (Int.pow_pos (by decide)))]
    congr 2
    simp only [IntKind.bits]
    omega
  have h1 : 0 ≤ x / 2 ^ (7 - t % 8) := Int.ediv_nonneg hx.1 (Int.le_of_lt (Int.pow_pos (by decide)))
  have h2 : x / 2 ^ (7 - t % 8) ≤ x := Int.ediv_le_self _ hx.1
  rw [e1, iand_u8 h1 (by omega) (by omega) (by omega)]
  have e2 : ((x / 2 ^ (7 - t % 8)).toNat &&& (1 : Int).toNat : Nat) = (x / 2 ^ (7 - t % 8)).toNat % 2 := Nat.and_one_is_mod _
  rw [e2, wr_i64 (by omega) (by omega)]
  omega
theorem bit_step {x v : Int} {t : Nat} (hx : 0 ≤ x ∧ x < 256) (hv : 0 ≤ v ∧ v < 4294967296) :
    ior .i64 (gshl .i64 v 1) (wr .i64 (iand .u8 (gshr .u8 x (wr .u64 (7 - wr .u64 (Int.tmod (t : Int) 8)))) 1)) = v * 2 + x / 2 ^ (7 - t % 8) % 2 := by
  rw [bit_of hx, gshl_i64 _ _ (by omega)]
  rw [show (2 : Int) ^ (1 : Int).toNat = 2 from rfl, wr_i64 (by omega) (by omega)]
  have : 0 ≤ x / 2 ^ (7 - t % 8) % 2 ∧ x / 2 ^ (7 - t % 8) % 2 < 2 := by omega
  rw [ior_add 1 (by omega) (by omega) (by omega) (by omega) (by omega) (by omega)]
theorem wsum_le {l : List Int} {m : Nat} (h : ∀ x ∈ l, x ≤ m) : wsum l ≤ m * l.length := by
  induction l with
  | nil => simp [wsum]
  | cons x l ih =>
    have := h x (by simp)
    have := ih fun y hy => h y (by simp [hy])
    simp only [wsum, List.length_cons, Nat.mul_add]
    omega
/-- a bit is laid in -/
theorem bit_put {x v : Int} {t : Nat} (hx : 0 ≤ x ∧ x < 256) (hd : x % 2 ^ (8 - t % 8) = 0) {m : Nat} (hm : m < 63) :
    ior .u8 x (gshl .u8 (wr .u8 (iand .i64 (gshr .i64 v (wr .u64 (m : Int))) 1)) (wr .u64 (7 - wr .u64 (Int.tmod (t : Int) 8)))) = x + v / 2 ^ m % 2 * 2 ^ (7 - t % 8) := by
  rw [tmod_pos (by omega), u64_id (n := (t : Int) % 8) (by omega) (by omega), u64_id (n := (m : Int)) (by omega) (by omega), u64_id (n := 7 - (t : Int) % 8) (by omega) (by omega), and_1]
  have e1 : gshr .i64 v (m : Int) = v / 2 ^ m := by
    rw [gshr_i64 _ _ (by omega), Int.fdiv_eq_ediv_of_nonneg _ (Int.le_of_lt (Int.pow_pos (by decide))), Int.toNat_natCast]
  rw [e1]
  have hb : 0 ≤ v / 2 ^ m % 2 ∧ v / 2 ^ m % 2 < 2 := by omega
  generalize v / 2 ^ m % 2 = y at *
  have e2 : wr .u8 y = y := by rw [wr_u8]; omega
  rw [e2]
  have e3 : gshl .u8 y (7 - (t : Int) % 8) = y * 2 ^ (7 - t % 8) := by
    unfold gshl
    have : min (7 - (t : Int) % 8).toNat (IntKind.u8).bits = 7 - t % 8 := by simp only [IntKind.bits]; omega
    rw [this]
    have hr : t % 8 < 8 := by omega
    have : 0 ≤ y * 2 ^ (7 - t % 8) ∧ y * 2 ^ (7 - t % 8) < 256 := by
      generalize t % 8 = r at hr
      rcases (by omega : r = 0 ∨ r = 1 ∨ r = 2 ∨ r = 3 ∨ r = 4 ∨ r = 5 ∨ r = 6 ∨ r = 7) with rfl | rfl | rfl | rfl | rfl | rfl | rfl | rfl <;> simp <;> omega
    have h2 := wr_u8 (y * 2 ^ (7 - t % 8))
    unfold wr at h2
    rw [h2]; omega
  rw [e3]
  have hr : t % 8 < 8 := by omega
  generalize t % 8 = r at *
  have fin : ∀ a b : Int, ∀ k : Nat, k < 8 → 0 ≤ a → a < 256 → a % 2 ^ (k + 1) = 0 → (b = 0 ∨ b = 2 ^ k) → ior .u8 a b = a + b := by
    intro a b k hk ha ha1 hm hb
    have key : ∀ a : Fin 256, ∀ k : Fin 8, a.val % 2 ^ (k.val + 1) = 0 → (a.val ||| 2 ^ k.val) = a.val + 2 ^ k.val := by decide +kernel
    have hp : (2 : Int) ^ k = ((2 ^ k : Nat) : Int) := by push_cast; rfl
    have hlt : (2 : Nat) ^ k < 256 := Nat.lt_of_lt_of_le (Nat.pow_lt_pow_right (by omega) hk) (by decide)
    rcases hb with rfl | rfl
    · rw [ior_u8 ha ha1 (by omega) (by omega)]
      simp; omega
    · rw [hp, ior_u8 ha ha1 (by omega) (by omega)]
      have := key ⟨a.toNat, by omega⟩ ⟨k, hk⟩ (by
        simp only
        have : ((a.toNat % 2 ^ (k + 1) : Nat) : Int) = 0 := by push_cast; rw [Int.toNat_of_nonneg ha]; exact hm
        omega)
      simp only at this
      rw [Int.toNat_natCast, this]
      omega
  refine fin x _ (7 - r) (by omega) hx.1 hx.2 (by rw [show 7 - r + 1 = 8 - r by omega]; exact hd) ?_
  rcases (by omega : y = 0 ∨ y = 1) with rfl | rfl
  · left; simp
  · right; simp
end Go.Vc
end

section
namespace Go.Vc
set_option linter.unusedVariables false
set_option linter.unusedSimpArgs false
set_option autoImplicit false
/-- bytes as a string -/
def baOf (l : List Int) : ByteArray := ⟨(l.map fun x => UInt8.ofNat x.toNat).toArray⟩
theorem baOf_list (l : List Int) : (baOf l).data.toList = l.map fun x => UInt8.ofNat x.toNat := rfl
theorem strOf {w : World} {s : Sl} {l : List Int} {F : ByteArray → Prop} (h : SeesB w s l) (hb : Byt l) (k : F (baOf l)) : BytesStr w s F := by
  refine ⟨(l.map fun (x : Int) => UInt8.ofNat x.toNat), by rw [List.length_map, h.len], fun hn => ?_, fun i hi => ?_, k⟩
  · by_cases hl : 0 < l.length
    · have := h.isSome (by decide) hl
      rw [hn] at this; cases this
    · rw [List.length_eq_zero_iff.1 (show l.length = 0 by omega)]; rfl
  · rw [List.length_map] at hi
    rw [byteC h i hi, bt_nat hi, List.getElem_map]
    have := hb l[i] (List.getElem_mem hi)
    congr 2
    rw [UInt8.toNat_ofNat', Nat.mod_eq_of_lt (by omega)]
    omega
theorem baOf_back {l : List Int} (hb : Byt l) : (baOf l).data.toList.map (fun u => ((u.toNat : Nat) : Int)) = l := by
  simp only [baOf, List.map_map]
  refine (List.map_congr_left fun x hx => ?_).trans (List.map_id l)
  have := hb x hx
  simp only [Function.comp, UInt8.toNat_ofNat', id]
  rw [Nat.mod_eq_of_lt (by omega)]
  omega
theorem baOf_eq {l m : List Int} (hl : Byt l) (hm : Byt m) : (baOf l == baOf m) = decide (l = m) := by
  by_cases h : l = m
  · subst h
    rw [decide_eq_true rfl]
    show (baOf l).data == (baOf l).data
    simp
  · have eb : ∀ a b : ByteArray, (a == b) = (a.data == b.data) := fun a b => by cases a; cases b; rfl
    rw [decide_eq_false h, eb, beq_eq_false_iff_ne]
    intro e
    apply h
    rw [← baOf_back hl, ← baOf_back hm, e]
theorem alike {w : World} {a b : Sl} {la lb : List Int} {R : Bool → Prop} (ha : SeesB w a la) (hb : SeesB w b lb) (ba : Byt la) (bb : Byt lb) (k : R (decide (la = lb))) :
    BytesStr w a fun x => BytesStr w b fun y => R (x == y) := by
  refine strOf ha ba (strOf hb bb ?_)
  rw [baOf_eq ba bb]
  exact k
end Go.Vc
end

section
open Go Go.Vc
set_option linter.unusedVariables false
set_option linter.unusedSimpArgs false
set_option autoImplicit false
namespace Go.Vc
section
open Go.ChangeShapes Go.WideShapes Go.ChangeAt Go.RowKit
variable {H : Type} {X : Tab} {w : World}
/-- a slice's datum and its length -/
def SlLen (d : DataW H) (n : Nat) : Prop := (d = .nil ∧ n = 0) ∨ ∃ els sp, d = .slice els sp ∧ els.length = n
theorem deep_bytes' {m t e : Nat} {x : SV} {d : DataW H} (hT : X.T t = .slice e) (hE : X.T e = .int .u8) (h : Deep X w m (X.T t) x d) :
    ∃ (s : Sl) (l : List Int), x = .slice s ∧ SeesB w s l ∧ Byt l ∧ s.len ≤ s.cap ∧ SlLen d l.length := by
  obtain ⟨s, l, h1, h2, h3, h4, h5, h6⟩ := deep_bytes hT hE h
  refine ⟨s, l, h1, h2, h3, h4, ?_⟩
  rcases h6 with ⟨rfl, rfl⟩ | ⟨els, sp, rfl, h7, _⟩
  · left; exact ⟨rfl, by have := h2.len; simpa using this.symm⟩
  · right; exact ⟨els, sp, rfl, h7⟩
/-- a slice of options -/
theorem dp_opts {m t e t2 e2 : Nat} {x : SV} {d : DataW H} (hT : X.T t = .slice e) (hE : X.T e = .struct false [.int .i64, .slice e2]) (hT2 : X.T t2 = .slice e2) (hE2 : X.T e2 = .int .u8) (h : Deep X w m (X.T t) x d) :
    ∃ (s : Sl) (l : List Opt) (os : List (Int × Sl)), x = .slice s ∧ Opts w s l os ∧ (∀ o ∈ l, Byt o.data) ∧ (∀ y ∈ os, y.2.len ≤ y.2.cap) ∧ s.len ≤ s.cap ∧
      (d = .nil ∧ l = [] ∨ ∃ els sp, d = .slice els sp ∧ els.length = l.length ∧ ∀ i (hi : i < l.length), ∃ dk dd, els[i]? = some (.agg [dk, dd]) ∧ SlLen dd l[i].data.length) := by
  rw [hT] at h
  cases m with
  | zero => exact h.elim
  | succ m =>
    simp only [Deep] at h
    rcases h with ⟨rfl, rfl⟩ | ⟨a, len, cap, vs, ds, rfl, rfl, hl, hm, hv, hd, h⟩
    · exact ⟨⟨none, 0, 0⟩, [], [], rfl, Opts.nil _ _ _, by simp, by simp, Nat.le_refl _, .inl ⟨rfl, rfl⟩⟩
    · have each : ∀ i (hi : i < cap), ∃ (o : Opt) (s : Sl), Cells w (some (a.add (i * 2))) (cOpt.enc (o.kind, s)) ∧ SeesB w s o.data ∧ Byt o.data ∧ s.len ≤ s.cap ∧ ∃ dk dd, ds[i]'(by omega) = .agg [dk, dd] ∧ SlLen dd o.data.length := by
        intro i hi
        obtain ⟨h1, h2, h3⟩ := h i _ _ (List.getElem?_eq_getElem (by omega)) (List.getElem?_eq_getElem (by omega))
        rw [hE] at h3 h2
        obtain ⟨fs, l, m', e1, e2', q⟩ := dp_struct h3
        obtain ⟨x1, _, d1, _, rfl, rfl, q1, q⟩ := all3_cons q
        obtain ⟨x2, _, d2, _, rfl, rfl, q2, q⟩ := all3_cons q
        obtain ⟨rfl, rfl⟩ := all3_nil q
        obtain ⟨k, rfl, _, _⟩ := dp_int q1
        rw [← hT2] at q2
        obtain ⟨s, l, rfl, g2, g3, g4, g5⟩ := deep_bytes' hT2 hE2 q2
        refine ⟨⟨k, l⟩, s, ?_, g2, g3, g4, d1, d2, e2', g5⟩
        rw [e1] at h2
        exact h2
      let F : Fin len → Opt := fun i => Classical.choose (each i (by omega))
      have hF0 : ∀ i : Fin len, ∃ (s : Sl), Cells w (some (a.add (i * 2))) (cOpt.enc ((F i).kind, s)) ∧ SeesB w s (F i).data ∧ Byt (F i).data ∧ s.len ≤ s.cap ∧ ∃ dk dd, ds[i.val]'(by omega) = .agg [dk, dd] ∧ SlLen dd (F i).data.length := fun i => Classical.choose_spec (each i (by omega))
      let G : Fin len → Sl := fun i => Classical.choose (hF0 i)
      have hG : ∀ i : Fin len, Cells w (some (a.add (i * 2))) (cOpt.enc ((F i).kind, G i)) ∧ SeesB w (G i) (F i).data ∧ Byt (F i).data ∧ (G i).len ≤ (G i).cap ∧ ∃ dk dd, ds[i.val]'(by omega) = .agg [dk, dd] ∧ SlLen dd (F i).data.length := fun i => Classical.choose_spec (hF0 i)
      refine ⟨⟨some a, len, cap⟩, List.ofFn F, List.ofFn fun i => ((F i).kind, G i), rfl, ⟨⟨by simp, cells_each fun i hi => ?_⟩, by simp, fun i hi => by simp, fun i hi => ?_⟩, fun y hy => ?_, fun y hy => ?_, hl, .inr ⟨_, _, rfl, by simp; omega, fun i hi => ?_⟩⟩
      · rw [List.getElem_ofFn]
        exact (hG ⟨i, by simpa using hi⟩).1
      · simp only [List.getElem_ofFn]
        exact (hG ⟨i, by simpa using hi⟩).2.1
      · obtain ⟨i, rfl⟩ := List.mem_ofFn.1 hy
        exact (hG i).2.2.1
      · obtain ⟨i, rfl⟩ := List.mem_ofFn.1 hy
        exact (hG i).2.2.2.1
      · simp only [List.getElem_ofFn]
        have hi' : i < len := by simpa using hi
        obtain ⟨dk, dd, e1, e2'⟩ := (hG ⟨i, hi'⟩).2.2.2.2
        refine ⟨dk, dd, ?_, e2'⟩
        rw [List.getElem?_take_of_lt hi', List.getElem?_eq_getElem (by omega)]
        exact congrArg some e1

/-! ### what weighs little is short -/
theorem weightsAll_mem {P : Program} {e : Nat} : ∀ {ds : List (DataW H)} {i : Nat} {d : DataW H}, ds[i]? = some d → ∀ n ∈ d.weights P e, n ∈ DataW.weightsAll P e ds
  | [], _, _, h, _, _ => by simp at h
  | x :: r, 0, d, h, n, hn => by
    simp at h; subst h
    simp only [DataW.weightsAll, List.mem_append]; exact .inl hn
  | x :: r, i + 1, d, h, n, hn => by
    simp only [DataW.weightsAll, List.mem_append]
    exact .inr (weightsAll_mem (i := i) (by simpa using h) n hn)
/-- all that is reached in a datum weighs at most that -/
def Light (P : Program) (t : Nat) (d : DataW H) : Prop := ∀ n ∈ d.weights P t, n ≤ 140737488351232
theorem light_arg {P : Program} {ts : List Nat} {ds : List (DataW H)} (h : (DataW.weightsEach P ts ds).all (· ≤ reachBytes) = true) : ∀ n ∈ DataW.weightsEach P ts ds, n ≤ 140737488351232 := fun n hn => by
  have h1 := List.all_eq_true.1 h n hn
  have h2 : n ≤ reachBytes := of_decide_eq_true h1
  exact h2
theorem light_head {P : Program} {t : Nat} {ts : List Nat} {d : DataW H} {ds : List (DataW H)} (h : ∀ n ∈ DataW.weightsEach P (t :: ts) (d :: ds), n ≤ 140737488351232) : Light P t d ∧ ∀ n ∈ DataW.weightsEach P ts ds, n ≤ 140737488351232 :=
  ⟨fun n hn => h n (by simp only [DataW.weightsEach, List.mem_append]; exact .inl hn), fun n hn => h n (by simp only [DataW.weightsEach, List.mem_append]; exact .inr hn)⟩
theorem light_struct {P : Program} {t : Nat} {fs : Array Field} {ts : List Nat} {l : List (DataW H)} (hu : P.underlying t = some (.struct fs)) (ht : fs.toList.map (·.type) = ts) (h : Light P t (.agg l)) : ∀ n ∈ DataW.weightsEach P ts l, n ≤ 140737488351232 := fun n hn => by
  refine h n ?_
  simp only [DataW.weights, hu, ht]
  exact hn
theorem light_slice {P : Program} {t e b : Nat} {els sp : List (DataW H)} (hu : P.underlying t = some (.slice e)) (hb : P.bytesOf e = b) (h : Light P t (.slice els sp)) : els.length * b ≤ 140737488351232 ∧ ∀ (i : Nat) (d : DataW H), els[i]? = some d → Light P e d := by
  refine ⟨?_, fun i d hd n hn => ?_⟩
  · have := h ((els.length + sp.length) * b) (by simp only [DataW.weights, hu, hb]; simp)
    rw [Nat.add_mul] at this
    omega
  · exact h n (by simp only [DataW.weights, hu]; simp only [List.mem_cons, List.mem_append]; exact .inr (.inl (weightsAll_mem hd n hn)))
theorem light_len {P : Program} {t e : Nat} {d : DataW H} {n : Nat} (hu : P.underlying t = some (.slice e)) (hb : P.bytesOf e = 1) (h : Light P t d) (hd : SlLen d n) : n ≤ 140737488351232 := by
  rcases hd with ⟨_, rfl⟩ | ⟨els, sp, rfl, rfl⟩
  · omega
  · have := (light_slice hu hb h).1; omega
/-- options that weigh little -/
theorem light_opts {P : Program} {t e t2 e2 t1 : Nat} {fs : Array Field} {d : DataW H} {l : List Opt} (hu : P.underlying t = some (.slice e)) (hb : P.bytesOf e = 32) (hs : P.underlying e = some (.struct fs)) (hft : fs.toList.map (·.type) = [t1, t2]) (hu2 : P.underlying t2 = some (.slice e2)) (hb2 : P.bytesOf e2 = 1) (h : Light P t d)
    (hd : d = .nil ∧ l = [] ∨ ∃ els sp, d = .slice els sp ∧ els.length = l.length ∧ ∀ i (hi : i < l.length), ∃ dk dd, els[i]? = some (.agg [dk, dd]) ∧ SlLen dd l[i].data.length) :
    l.length ≤ 4398046511000 ∧ ∀ o ∈ l, o.data.length ≤ 140737488351232 := by
  rcases hd with ⟨rfl, rfl⟩ | ⟨els, sp, rfl, he, hh⟩
  · simp
  · obtain ⟨h1, h2⟩ := light_slice hu hb h
    refine ⟨by omega, fun o ho => ?_⟩
    obtain ⟨i, hi, rfl⟩ := List.getElem_of_mem ho
    obtain ⟨dk, dd, e1, e2'⟩ := hh i hi
    have h3 := light_struct hs hft (h2 _ _ e1)
    exact light_len hu2 hb2 (light_head (light_head h3).2).1 e2'
end
end Go.Vc
end

section
namespace Go.Vc
set_option linter.unusedVariables false
set_option linter.unusedSimpArgs false
set_option autoImplicit false
/-- a window of q bytes in s, from p on -/
structure Win (s o : Sl) (p q : Nat) : Prop where
  len : o.len = q
  le : p + q ≤ s.len
  at_ : ∀ k, k < q → o.at 1 k = s.at 1 (p + k)
  blk : ∀ b ∈ o.blk, b ∈ s.blk
  isS : 0 < q → o.ptr.isSome = true
  sees : ∀ (w : World) (l : List Int), SeesB w s l → SeesB w o ((l.drop p).take q)
theorem Win.sub {s o : Sl} {p q lo hi mx : Nat} (h : Win s o p q) (h1 : lo ≤ hi) (h2 : hi ≤ q) (h3 : hi ≤ mx) : Win s (o.sub 1 lo hi mx) (p + lo) (hi - lo) where
  len := by simp [Sl.sub]
  le := by have := h.le; omega
  at_ k hk := by
    have e : (o.sub 1 lo hi mx).at 1 k = o.at 1 (lo + k) := by
      unfold Sl.sub Sl.at
      have : mx ≠ lo := by omega
      simp only [if_neg this]
      obtain ⟨a, ha⟩ := Option.isSome_iff_exists.1 (h.isS (by omega))
      rw [ha]
      show (a.add (lo * 1)).add (k * 1) = a.add ((lo + k) * 1)
      rw [add_add]; congr 1; omega
    rw [e, h.at_ _ (by omega)]; congr 1; omega
  blk b hb := h.blk b (sub_blk b hb)
  isS hq := by
    have := h.isS (by omega)
    unfold Sl.sub
    simp only
    split
    · exact this
    · rw [Option.isSome_map]; exact this
  sees w l hl := by
    have hs := h.sees w l hl
    have hll := hl.len
    have hle := h.le
    have := hs.subB (lo := lo) (hi := hi) (mx := mx) h1 (by simp; omega) h3
    rw [List.take_take, Nat.min_eq_left h2, List.drop_take, List.drop_drop] at this
    exact this
theorem Win.whole0 {s : Sl} {n m : Nat} (h : n ≤ s.len) (hm : n ≤ m) (hs : s.ptr.isSome = true) : Win s (s.sub 1 0 n m) 0 n where
  len := by simp [Sl.sub]
  le := by omega
  at_ k hk := by
    rw [Nat.zero_add]
    unfold Sl.sub Sl.at
    simp only
    split
    · rfl
    · cases s.ptr <;> simp [Addr.add]
  blk b hb := sub_blk b hb
  isS hq := by
    unfold Sl.sub
    simp only
    split
    · exact hs
    · rw [Option.isSome_map]; exact hs
  sees w l hl := by
    have hll := hl.len
    have := hl.subB (lo := 0) (hi := n) (mx := m) (by omega) (by omega) hm
    simpa using this
theorem Win.ix {s o : Sl} {p q k : Nat} {w : World} {L : List Int} {X : Prop} (h : Win s o p q) (hs : SeesB w s L) (hk : k < q) (x : X) : Need (decide (0 ≤ (k : Int)) && decide ((k : Int) < (o.len : Int)) && o.ptr.isSome) X := by
  have := h.sees w L hs
  have := hs.len
  have := h.le
  exact needB (h.sees w L hs) (by omega) (by simp; omega) x
theorem Win.cell {s o : Sl} {p q k : Nat} {w : World} {L : List Int} (h : Win s o p q) (hs : SeesB w s L) (hk : k < q) : w.cell? (o.at 1 (Int.toNat (k : Int))) = some (.int .u8 (bt L ((p + k : Nat) : Int))) := by
  rw [Int.toNat_natCast, h.at_ k hk]
  exact byteC hs (p + k) (by have := hs.len; have := h.le; omega)
theorem Win.store {s o : Sl} {p q k N : Nat} {w : World} {L : List Int} {x : Int} {bs : List Nat} {F : World → Prop} (h : Win s o p q) (hs : SeesB w s L) (ho : Own N 1 w s) (hk : k < q) (hbs : ∀ b ∈ s.blk, b ∉ bs)
    (kk : ∀ w1, SeesB w1 s (L.set (p + k) x) → Own N 1 w1 s → Upd s.blk [] w w1 → F w1) : Store w (o.at 1 (Int.toNat (k : Int))) [.int .u8 x] bs F := by
  rw [Int.toNat_natCast, h.at_ k hk]
  exact own_set (c := cU8) hs ho (by decide) (by have := hs.len; have := h.le; omega) rfl hbs kk

/-- k bytes from p on, turned by c -/
def xs (c : Int) (p k : Nat) (l : List Int) : List Int := (List.range l.length).map fun i => if p ≤ i ∧ i < p + k then ixor .u8 (bt l (i : Int)) c else bt l (i : Int)
theorem xs_len (c : Int) (p k : Nat) (l : List Int) : (xs c p k l).length = l.length := by simp [xs]
theorem xs_bt {c : Int} {p k i : Nat} {l : List Int} (h : i < l.length) : bt (xs c p k l) (i : Int) = if p ≤ i ∧ i < p + k then ixor .u8 (bt l (i : Int)) c else bt l (i : Int) := by
  rw [bt_nat (by rw [xs_len]; exact h)]
  simp [xs]
theorem xs_zero (c : Int) (p : Nat) (l : List Int) : xs c p 0 l = l :=
  bt_ext (xs_len _ _ _ _) fun i hi => by rw [xs_len] at hi; rw [xs_bt hi, if_neg (by omega)]
theorem xs_set {c : Int} {p k : Nat} {l : List Int} (h : p + k < l.length) : (xs c p k l).set (p + k) (ixor .u8 (bt (xs c p k l) ((p + k : Nat) : Int)) c) = xs c p (k + 1) l :=
  bt_ext (by simp [xs_len]) fun i hi => by
    have hi' : i < l.length := by simpa [xs_len] using hi
    have e0 : bt (xs c p k l) ((p + k : Nat) : Int) = bt l ((p + k : Nat) : Int) := by rw [xs_bt h, if_neg (by omega)]
    rw [bt_set (by rw [xs_len]; exact h), e0]
    by_cases e : i = p + k
    · subst e; rw [if_pos rfl, xs_bt h, if_pos (by omega)]
    · rw [if_neg e, xs_bt hi', xs_bt hi']
      by_cases e2 : p ≤ i ∧ i < p + k
      · rw [if_pos e2, if_pos (by omega)]
      · rw [if_neg e2, if_neg (by omega)]
theorem ixor_r {a c : Int} (ha : 0 ≤ a ∧ a < 256) (hc : 0 ≤ c ∧ c < 256) : 0 ≤ ixor .u8 a c ∧ ixor .u8 a c < 256 := by
  rw [ixor_u8 ha.1 ha.2 hc.1 hc.2]
  have : a.toNat ^^^ c.toNat < 2 ^ 8 := Nat.xor_lt_two_pow (by omega) (by omega)
  omega
theorem ixor_inv {a c : Int} (ha : 0 ≤ a ∧ a < 256) (hc : 0 ≤ c ∧ c < 256) : ixor .u8 (ixor .u8 a c) c = a := by
  have h := ixor_r ha hc
  rw [ixor_u8 h.1 h.2 hc.1 hc.2, ixor_u8 ha.1 ha.2 hc.1 hc.2, Int.toNat_natCast, Nat.xor_assoc, Nat.xor_self, Nat.xor_zero]
  omega
theorem xs_byt {c : Int} {p k : Nat} {l : List Int} (hb : Byt l) (hc : 0 ≤ c ∧ c < 256) : Byt (xs c p k l) := by
  intro x hx
  obtain ⟨i, hi, rfl⟩ := List.mem_map.1 hx
  have := hb.bt (i : Int)
  split
  · exact ixor_r this hc
  · exact this
theorem xs_inv {c : Int} {p k : Nat} {l : List Int} (hb : Byt l) (hc : 0 ≤ c ∧ c < 256) : xs c p k (xs c p k l) = l :=
  bt_ext (by simp [xs_len]) fun i hi => by
    have hi' : i < l.length := by simpa [xs_len] using hi
    rw [xs_bt (by rw [xs_len]; exact hi'), xs_bt hi']
    by_cases e : p ≤ i ∧ i < p + k
    · rw [if_pos e, if_pos e]; exact ixor_inv (hb.bt _) hc
    · rw [if_neg e, if_neg e]
theorem not_self : ∀ x : Fin 256, x.val ^^^ 255 ≠ x.val := by decide +kernel
theorem ixor_ne {a : Int} (ha : 0 ≤ a ∧ a < 256) : a ≠ ixor .u8 a 255 := by
  rw [ixor_u8 ha.1 ha.2 (by decide) (by decide)]
  have := not_self ⟨a.toNat, by omega⟩
  simp only at this
  have e : (255 : Int).toNat = 255 := rfl
  rw [e]; omega
end Go.Vc
end

section
namespace Go.Vc
set_option linter.unusedVariables false
set_option linter.unusedSimpArgs false
set_option autoImplicit false
/-- cells of more kinds than one -/
inductive CV
  | sl (s : Sl) | int (n : Int) | ptr (p : Option Addr) | map (r : Option Nat)
def cCV : Cod CV := ⟨1, fun | .sl s => [s.val] | .int n => [.int .i64 n] | .ptr p => [.pointer p] | .map r => [.map r], by intro x; cases x <;> rfl, by intro x v hv; cases x <;> simp at hv <;> subst hv <;> rfl⟩
abbrev bxN (b n : Nat) : Sl := ⟨some ⟨b, 0, none⟩, n, n⟩
/-- a box of such cells -/
structure Bx (w : World) (b : Nat) (l : List CV) : Prop where
  sees : Sees cCV w (bxN b l.length) l
  own : Own 0 1 w (bxN b l.length)
section
variable {w w1 : World} {b : Nat} {l : List CV}
theorem Bx.mk' {e : Nat} {cs : List Value} (h : w.heap[b]? = some (.cells cs.toArray e (0, 0))) (hc : cs = cCV.cells l) : Bx w b l :=
  ⟨sees_row h l hc rfl, own_row h (Nat.zero_le _) (by rw [hc, cCV.cells_length]; simp [cCV]) (Nat.le_refl _)⟩
theorem Bx.upd {m n : List Nat} (h : Bx w b l) (u : Upd m n w w1) (hm : b ∉ m) : Bx w1 b l := ⟨h.sees.upd u (by simpa [Sl.blk] using hm), h.own.upd u (by simpa [Sl.blk] using hm)⟩
theorem Bx.old {n : List Nat} (h : Bx w b l) (u : Upd [] n w w1) : Bx w1 b l := h.upd u (by simp)
theorem Bx.lt (h : Bx w b l) : b < w.heap.size := (h.own.blk b (by simp [Sl.blk])).2
theorem Bx.at_ (i : Nat) : (bxN b l.length).at 1 i = (⟨b, 0, none⟩ : Addr).add i := by simp [Sl.at]
theorem Bx.get (h : Bx w b l) (i : Nat) (hi : i < l.length) : some (w.cell? ((⟨b, 0, none⟩ : Addr).add i)) = ((cCV.enc l[i]).head?).map some := by
  have h0 : 0 < (cCV.enc l[i]).length := by cases l[i] <;> exact Nat.one_pos
  have h1 := h.sees.elem hi 0 h0
  rw [add_zero] at h1
  have h2 : w.cell? ((⟨b, 0, none⟩ : Addr).add i) = some (cCV.enc l[i])[0] := by rw [← Bx.at_ (b := b) (l := l)]; exact h1
  rw [h2]
  exact (fun (x : CV) (h : 0 < (cCV.enc x).length) => (by cases x <;> rfl : some (some (cCV.enc x)[0]) = ((cCV.enc x).head?).map some)) _ h0
theorem Bx.sl (h : Bx w b l) (i : Nat) (s : Sl) (hi : l[i]? = some (.sl s)) : w.cell? ((⟨b, 0, none⟩ : Addr).add i) = some s.val := by
  obtain ⟨h1, h2⟩ := List.getElem?_eq_some_iff.1 hi
  have := h.get i h1
  rw [h2] at this
  exact Option.some.inj this
theorem Bx.int (h : Bx w b l) (i : Nat) (n : Int) (hi : l[i]? = some (.int n)) : w.cell? ((⟨b, 0, none⟩ : Addr).add i) = some (.int .i64 n) := by
  obtain ⟨h1, h2⟩ := List.getElem?_eq_some_iff.1 hi
  have := h.get i h1
  rw [h2] at this
  exact Option.some.inj this
theorem Bx.ptr (h : Bx w b l) (i : Nat) (p : Option Addr) (hi : l[i]? = some (.ptr p)) : w.cell? ((⟨b, 0, none⟩ : Addr).add i) = some (.pointer p) := by
  obtain ⟨h1, h2⟩ := List.getElem?_eq_some_iff.1 hi
  have := h.get i h1
  rw [h2] at this
  exact Option.some.inj this
theorem Bx.mp (h : Bx w b l) (i : Nat) (p : Option Nat) (hi : l[i]? = some (.map p)) : w.cell? ((⟨b, 0, none⟩ : Addr).add i) = some (.map p) := by
  obtain ⟨h1, h2⟩ := List.getElem?_eq_some_iff.1 hi
  have := h.get i h1
  rw [h2] at this
  exact Option.some.inj this
theorem Bx.set {bs : List Nat} {vs : List Value} {y : CV} {F : World → Prop} (h : Bx w b l) (i : Nat) (hi : i < l.length) (hv : vs = cCV.enc y) (hbs : b ∉ bs) (k : ∀ w1, Bx w1 b (l.set i y) → Upd [b] [] w w1 → F w1) : Store w ((⟨b, 0, none⟩ : Addr).add i) vs bs F := by
  rw [← Bx.at_ (b := b) (l := l)]
  refine own_set (c := cCV) (x := y) h.sees h.own (by decide) hi hv (by simpa [Sl.blk] using hbs) fun w1 h1 o1 u1 => k w1 ⟨by simpa using h1, by rw [List.length_set]; exact o1⟩ (by simpa [Sl.blk] using u1)
end
/-- the marks of a desk -/
def dmk (i : Nat) : Int := wr .u8 (wr .i64 (203 - wr .i64 (5 * (i : Int))))
def dmks (K : Nat) : List Int := (List.range K).map dmk
theorem dmks_len (K : Nat) : (dmks K).length = K := by simp [dmks]
theorem dmks_bt {K i : Nat} (h : i < K) : bt (dmks K) (i : Int) = dmk i := by rw [bt_nat (by rw [dmks_len]; exact h)]; simp [dmks]
/-- a desk with bytes on it -/
structure Dsk (N : Nat) (w : World) (b : Nat) (l : List Int) (K : Nat) (room : Sl) : Prop where
  box : Bx w b [.sl room, .int l.length]
  sees : SeesB w room (l ++ (dmks K).drop l.length)
  le : l.length ≤ K
  own : Own N 1 w room
  off : b ∉ room.blk
theorem Dsk.upd {N : Nat} {w w1 : World} {b K : Nat} {l : List Int} {room : Sl} {m n : List Nat} (h : Dsk N w b l K room) (u : Upd m n w w1) (h1 : b ∉ m) (h2 : ∀ x ∈ room.blk, x ∉ m) : Dsk N w1 b l K room :=
  ⟨h.box.upd u h1, h.sees.upd u h2, h.le, h.own.upd u h2, h.off⟩
theorem Dsk.old {N : Nat} {w w1 : World} {b K : Nat} {l : List Int} {room : Sl} {n : List Nat} (h : Dsk N w b l K room) (u : Upd [] n w w1) : Dsk N w1 b l K room := h.upd u (by simp) (by simp)
theorem Dsk.len {N : Nat} {w : World} {b K : Nat} {l : List Int} {room : Sl} (h : Dsk N w b l K room) : room.len = K := by
  have := h.sees.len
  have := h.le
  simp [dmks_len] at *
  omega
/-- what was lent -/
theorem Dsk.lent {N : Nat} {w : World} {b K : Nat} {l : List Int} {room : Sl} (h : Dsk N w b l K room) {n : Nat} (hn : n = l.length) : SeesB w (room.sub 1 0 n room.cap) l := by
  subst hn
  have h1 := h.len
  have := h.le
  have := h.own.le
  have := h.sees.subB (lo := 0) (hi := l.length) (mx := room.cap) (by omega) (by simp) (by omega)
  simpa using this
end Go.Vc
end

section
namespace Go.Vc
set_option linter.unusedVariables false
set_option linter.unusedSimpArgs false
set_option autoImplicit false
/-- a list of lists, each in an array of its own -/
structure LotC {α : Type} (c : Cod α) (N : Nat) (w : World) (L : Sl) (ls : List (List α)) (gs : List Sl) : Prop where
  row : Sees cSl w L gs
  len : gs.length = ls.length
  each : ∀ i (h : i < ls.length), Sees c w (gs[i]'(by rw [len]; exact h)) ls[i]
  own : Own N 1 w L
  owns : ∀ x ∈ gs, Own N c.sz w x
  dis : gs.Pairwise Apt
  off : ∀ x ∈ gs, Apt x L
section
variable {α : Type} {c : Cod α} {N : Nat} {w w1 : World} {L : Sl} {ls : List (List α)} {gs : List Sl}
theorem LotC.nil (c : Cod α) (N : Nat) (w : World) : LotC c N w ⟨none, 0, 0⟩ [] [] := ⟨Sees.nil _ _ _ _, rfl, by simp, Own.none _ _ _, by simp, by simp, by simp⟩
/-- all its blocks -/
def lotB (L : Sl) (gs : List Sl) : List Nat := L.blk ++ gs.flatMap Sl.blk
theorem lotB_mem {x : Nat} : x ∈ lotB L gs ↔ x ∈ L.blk ∨ ∃ g ∈ gs, x ∈ g.blk := by simp [lotB]
theorem LotC.upd {m n : List Nat} (h : LotC c N w L ls gs) (u : Upd m n w w1) (hm : ∀ x ∈ lotB L gs, x ∉ m) : LotC c N w1 L ls gs :=
  have a := fun x hx => hm x (lotB_mem.2 (.inl hx))
  have b := fun g (hg : g ∈ gs) x hx => hm x (lotB_mem.2 (.inr ⟨g, hg, hx⟩))
  ⟨h.row.upd u a, h.len, fun i hi => (h.each i hi).upd u (b _ (List.getElem_mem _)), h.own.upd u a, fun x hx => (h.owns x hx).upd u (b x hx), h.dis, h.off⟩
theorem LotC.old {n : List Nat} (h : LotC c N w L ls gs) (u : Upd [] n w w1) : LotC c N w1 L ls gs := h.upd u (by simp)
theorem LotC.lt (h : LotC c N w L ls gs) : ∀ x ∈ lotB L gs, N ≤ x ∧ x < w.heap.size := fun x hx => by
  rcases lotB_mem.1 hx with q | ⟨g, hg, q⟩
  · exact h.own.blk x q
  · exact (h.owns g hg).blk x q
/-- one list more -/
theorem LotC.app1 {b e e' k0 : Nat} {g : Sl} {l : List α} {F : Sl → World → Prop} {cs : List Value} (h : LotC c N w L ls gs) (hrow : w.heap[b]? = some (.cells cs.toArray e (0, 0))) (hcs : cs = cSl.cells [g]) (hk0 : k0 = 1) (hg : Sees c w g l) (og : Own N c.sz w g) (hd : ∀ x ∈ g.blk, x ∉ lotB L gs)
    (hNw : N ≤ w.heap.size) (hb : (gs.length + 1) * 24 ≤ 140737488355328)
    (k : ∀ r w1, LotC c N w1 r (ls ++ [l]) (gs ++ [g]) → Upd L.blk [] w w1 → (∀ x ∈ r.blk, x ∈ L.blk ∨ w.heap.size ≤ x) → F r w1) : Append e' 1 24 L ⟨some ⟨b, 0, none⟩, k0, k0⟩ [] w F := by
  subst hcs hk0
  refine append_own (c := cSl) (new := [g]) h.row h.own (sees_row hrow _ rfl rfl) hNw (by simp) (by decide) hb fun r w1 hr ho u hnew => ?_
  have hgl := h.len
  have dg : ∀ x ∈ gs, ∀ b ∈ x.blk, b ∉ L.blk := h.off
  have dn : ∀ x ∈ g.blk, x ∉ L.blk := fun x hx hm => hd x hx (lotB_mem.2 (.inl hm))
  refine k r w1 ⟨hr, by simp [hgl], fun i hi => ?_, ho, ?_, ?_, ?_⟩ u hnew
  · by_cases hi2 : i < ls.length
    · rw [List.getElem_append_left (by rw [hgl]; exact hi2)]
      have e : (ls ++ [l])[i] = ls[i] := List.getElem_append_left hi2
      rw [e]
      exact (h.each i hi2).upd u (dg _ (List.getElem_mem _))
    · have hil : i = ls.length := by simp at hi; omega
      subst hil
      have e : (ls ++ [l])[ls.length] = l := by simp
      rw [e]
      have e2 : (gs ++ [g])[ls.length]'(by simp [hgl]) = g := by simp [← hgl]
      rw [e2]
      exact hg.upd u dn
  · intro x hx
    rcases List.mem_append.1 hx with hx | hx
    · exact (h.owns x hx).upd u (dg x hx)
    · rw [List.mem_singleton] at hx; subst hx; exact og.upd u dn
  · rw [List.pairwise_append]
    refine ⟨h.dis, by simp, fun x hx y hy b hb hm => ?_⟩
    rw [List.mem_singleton] at hy; subst hy
    exact hd b hm (lotB_mem.2 (.inr ⟨x, hx, hb⟩))
  · intro x hx b hb hm
    rcases List.mem_append.1 hx with hx | hx
    · rcases hnew b hm with h1 | h1
      · exact dg x hx b hb h1
      · have := ((h.owns x hx).blk b hb).2; omega
    · rw [List.mem_singleton] at hx; subst hx
      rcases hnew b hm with h1 | h1
      · exact dn b hb h1
      · have := (og.blk b hb).2; omega
end
end Go.Vc
end

section
namespace Go.Vc
set_option linter.unusedVariables false
set_option linter.unusedSimpArgs false
set_option autoImplicit false
section
variable {α : Type} {c : Cod α} {N : Nat} {w w1 : World} {L : Sl} {ls : List (List α)} {gs : List Sl}
theorem LotC.index (h : LotC c N w L ls gs) : ∀ i j (hi : i < gs.length) (hj : j < gs.length), i ≠ j → ∀ b ∈ gs[i].blk, b ∉ gs[j].blk := by
  intro i j hi hj hne
  rcases Nat.lt_or_gt_of_ne hne with h1 | h1
  · exact List.pairwise_iff_getElem.1 h.dis i j hi hj h1
  · exact (List.pairwise_iff_getElem.1 h.dis j i hj hi h1 : Apt _ _).symm
/-- one element of one list is written -/
theorem LotC.set {i q : Nat} {y : α} {vs : List Value} {F : World → Prop} (h : LotC c N w L ls gs) (hz : 0 < c.sz) (hi : i < ls.length) (hi2 : i < gs.length) (hq : q < ls[i].length) (hv : vs = c.enc y) (k : ∀ w1, LotC c N w1 L (ls.set i (ls[i].set q y)) gs → Upd (gs[i]).blk [] w w1 → F w1) : Store w ((gs[i]).at c.sz q) vs [] F := by
  have hgl := h.len
  refine own_set (h.each i hi) (h.owns _ (List.getElem_mem _)) hz hq hv (by simp) fun w1 h1 o1 u1 => k w1 ⟨?_, by rw [List.length_set]; exact hgl, fun j hj => ?_, ?_, fun x hx => ?_, h.dis, h.off⟩ u1
  · exact h.row.upd u1 (fun x hx hm => h.off _ (List.getElem_mem hi2) x hm hx)
  · have hj' : j < ls.length := by simpa using hj
    by_cases e : j = i
    · subst e
      have e1 : (ls.set j (ls[j].set q y))[j]'hj = ls[j].set q y := by simp
      rw [e1]
      exact h1
    · have e1 : (ls.set i (ls[i].set q y))[j]'hj = ls[j] := by
        rw [List.getElem_set_ne (by omega)]
      rw [e1]
      exact (h.each j hj').upd u1 (h.index j i (by omega) hi2 e)
  · exact h.own.upd u1 (fun x hx hm => h.off _ (List.getElem_mem hi2) x hm hx)
  · obtain ⟨j, hj, rfl⟩ := List.getElem_of_mem hx
    by_cases e : j = i
    · subst e; exact o1
    · exact (h.owns _ (List.getElem_mem hj)).upd u1 (h.index j i hj hi2 e)
end
/-- one mark more behind a list that holds one mark alone; b: the list as it was handed out -/
theorem app_mkC {α : Type} {c : Cod α} {w : World} {N k e by_ : Nat} {b s x : Sl} {y : α} {F : Sl → World → Prop} (hb : Sees c w b (List.replicate b.len y)) (hs : Sees c w s (List.replicate k y)) (os : Own N c.sz w s) (hbk : b.len ≤ k) (hp : s.ptr = b.ptr ∨ ∀ z ∈ b.blk, z ∉ s.blk) (hx : Sees c w x [y]) (hN : N ≤ w.heap.size) (hbs : ∀ z ∈ b.blk, z < w.heap.size) (hpos : 0 < by_) (hl : (k + 1) * by_ ≤ 140737488355328)
    (kk : ∀ r w1, Sees c w1 r (List.replicate (k + 1) y) → Own N c.sz w1 r → Sees c w1 b (List.replicate b.len y) → (r.ptr = b.ptr ∨ ∀ z ∈ b.blk, z ∉ r.blk) → Upd s.blk [] w w1 → (∀ z ∈ r.blk, z ∈ s.blk ∨ w.heap.size ≤ z) → F r w1) : Append e c.sz by_ s x [] w F := by
  refine append_two hs os hx hN (by simp) hpos (by simpa using hl) (fun r w1 hr hor hrp u _ _ => ?_) (fun r w1 hr hor u => ?_)
  · rw [show List.replicate k y ++ [y] = List.replicate (k + 1) y by rw [List.replicate_succ']] at hr
    have hrb : r.blk = s.blk := blk_ptr hrp
    refine kk r w1 hr hor ?_ ?_ u (fun z hz => .inl (hrb ▸ hz))
    · rcases hp with q | q
      · refine hr.prefix_ (hrp.trans q) ?_ (by simp)
        rw [List.length_replicate, List.drop_replicate, List.replicate_append_replicate]
        congr 1; omega
      · exact hb.upd u q
    · rcases hp with q | q
      · exact .inl (hrp.trans q)
      · exact .inr (by rw [hrb]; exact q)
  · rw [show List.replicate k y ++ [y] = List.replicate (k + 1) y by rw [List.replicate_succ']] at hr
    exact kk r w1 hr (hor.mono hN) (hb.old u) (.inr fun z hz hm => by have := hbs z hz; have := (hor.blk z hm).1; omega) (u.wide (by simp)) (fun z hz => .inr (hor.blk z hz).1)
end Go.Vc
end

section
namespace Go.Vc
set_option linter.unusedVariables false
set_option linter.unusedSimpArgs false
set_option autoImplicit false
section
variable {α : Type} {c : Cod α} {N : Nat} {w w1 : World} {L : Sl} {ls : List (List α)} {gs : List Sl}
/-- lists more -/
theorem LotC.appsB {M b e e' k0 : Nat} {ns : List Sl} {nl : List (List α)} {bs : List Nat} {F : Sl → World → Prop} {cs : List Value} (h : LotC c N w L ls gs) (hrow : w.heap[b]? = some (.cells cs.toArray e (0, 0))) (hcs : cs = cSl.cells ns) (hk0 : k0 = ns.length) (hnl : ns.length = nl.length) (hg : ∀ i (hi : i < nl.length), Sees c w (ns[i]'(by rw [hnl]; exact hi)) nl[i]) (og : ∀ x ∈ ns, Own M c.sz w x) (hd : ns.Pairwise Apt) (hM : ∀ x ∈ lotB L gs, x < M) (hNM : N ≤ M)
    (hNw : N ≤ w.heap.size) (hb : (gs.length + ns.length) * 24 ≤ 140737488355328) (hbs : ∀ x ∈ L.blk, x ∉ bs)
    (k : ∀ r w1, LotC c N w1 r (ls ++ nl) (gs ++ ns) → Upd L.blk [] w w1 → (∀ x ∈ r.blk, x ∈ L.blk ∨ w.heap.size ≤ x) → F r w1) : Append e' 1 24 L ⟨some ⟨b, 0, none⟩, k0, k0⟩ bs w F := by
  subst hcs hk0
  refine append_own (c := cSl) (new := ns) h.row h.own (sees_row hrow _ rfl rfl) hNw hbs (by decide) hb fun r w1 hr ho u hnew => ?_
  have hgl := h.len
  have dg : ∀ x ∈ gs, ∀ b ∈ x.blk, b ∉ L.blk := h.off
  have dn : ∀ x ∈ ns, ∀ b ∈ x.blk, b ∉ L.blk := fun x hx b hb hm => by
    have := ((og x hx).blk b hb).1
    have := hM b (lotB_mem.2 (.inl hm))
    omega
  refine k r w1 ⟨hr, by simp [hgl, hnl], fun i hi => ?_, ho, ?_, ?_, ?_⟩ u hnew
  · by_cases hi2 : i < ls.length
    · rw [List.getElem_append_left (by rw [hgl]; exact hi2)]
      have e : (ls ++ nl)[i] = ls[i] := List.getElem_append_left hi2
      rw [e]
      exact (h.each i hi2).upd u (dg _ (List.getElem_mem _))
    · have hi3 : i - ls.length < nl.length := by simp at hi; omega
      have e : (ls ++ nl)[i] = nl[i - ls.length] := List.getElem_append_right (by omega)
      rw [e]
      have e2 : (gs ++ ns)[i]'(by simp [hgl, hnl]; simp at hi; omega) = ns[i - ls.length]'(by rw [hnl]; exact hi3) := by
        rw [List.getElem_append_right (by omega)]
        simp only [hgl]
      rw [e2]
      exact (hg _ hi3).upd u (dn _ (List.getElem_mem _))
  · intro x hx
    rcases List.mem_append.1 hx with hx | hx
    · exact (h.owns x hx).upd u (dg x hx)
    · exact ((og x hx).upd u (dn x hx)).mono hNM
  · rw [List.pairwise_append]
    refine ⟨h.dis, hd, fun x hx y hy b hb hm => ?_⟩
    have := ((og y hy).blk b hm).1
    have := hM b (lotB_mem.2 (.inr ⟨x, hx, hb⟩))
    omega
  · intro x hx b hb hm
    rcases List.mem_append.1 hx with hx | hx
    · rcases hnew b hm with h1 | h1
      · exact dg x hx b hb h1
      · have := ((h.owns x hx).blk b hb).2; omega
    · rcases hnew b hm with h1 | h1
      · exact dn x hx b hb h1
      · have := ((og x hx).blk b hb).2; omega
/-- one list more -/
theorem LotC.app1B {b e e' k0 : Nat} {g : Sl} {l : List α} {bs : List Nat} {F : Sl → World → Prop} {cs : List Value} (h : LotC c N w L ls gs) (hrow : w.heap[b]? = some (.cells cs.toArray e (0, 0))) (hcs : cs = cSl.cells [g]) (hk0 : k0 = 1) (hg : Sees c w g l) (og : Own N c.sz w g) (hd : ∀ x ∈ g.blk, x ∉ lotB L gs)
    (hNw : N ≤ w.heap.size) (hb : (gs.length + 1) * 24 ≤ 140737488355328) (hbs : ∀ x ∈ L.blk, x ∉ bs)
    (k : ∀ r w1, LotC c N w1 r (ls ++ [l]) (gs ++ [g]) → Upd L.blk [] w w1 → (∀ x ∈ r.blk, x ∈ L.blk ∨ w.heap.size ≤ x) → F r w1) : Append e' 1 24 L ⟨some ⟨b, 0, none⟩, k0, k0⟩ bs w F := by
  subst hcs hk0
  refine append_own (c := cSl) (new := [g]) h.row h.own (sees_row hrow _ rfl rfl) hNw hbs (by decide) hb fun r w1 hr ho u hnew => ?_
  have hgl := h.len
  have dg : ∀ x ∈ gs, ∀ b ∈ x.blk, b ∉ L.blk := h.off
  have dn : ∀ x ∈ g.blk, x ∉ L.blk := fun x hx hm => hd x hx (lotB_mem.2 (.inl hm))
  refine k r w1 ⟨hr, by simp [hgl], fun i hi => ?_, ho, ?_, ?_, ?_⟩ u hnew
  · by_cases hi2 : i < ls.length
    · rw [List.getElem_append_left (by rw [hgl]; exact hi2)]
      have e : (ls ++ [l])[i] = ls[i] := List.getElem_append_left hi2
      rw [e]
      exact (h.each i hi2).upd u (dg _ (List.getElem_mem _))
    · have hil : i = ls.length := by simp at hi; omega
      subst hil
      have e : (ls ++ [l])[ls.length] = l := by simp
      rw [e]
      have e2 : (gs ++ [g])[ls.length]'(by simp [hgl]) = g := by simp [← hgl]
      rw [e2]
      exact hg.upd u dn
  · intro x hx
    rcases List.mem_append.1 hx with hx | hx
    · exact (h.owns x hx).upd u (dg x hx)
    · rw [List.mem_singleton] at hx; subst hx; exact og.upd u dn
  · rw [List.pairwise_append]
    refine ⟨h.dis, by simp, fun x hx y hy b hb hm => ?_⟩
    rw [List.mem_singleton] at hy; subst hy
    exact hd b hm (lotB_mem.2 (.inr ⟨x, hx, hb⟩))
  · intro x hx b hb hm
    rcases List.mem_append.1 hx with hx | hx
    · rcases hnew b hm with h1 | h1
      · exact dg x hx b hb h1
      · have := ((h.owns x hx).blk b hb).2; omega
    · rw [List.mem_singleton] at hx; subst hx
      rcases hnew b hm with h1 | h1
      · exact dn b hb h1
      · have := (og.blk b hb).2; omega
/-- one element of one list is written -/
theorem LotC.setB {i q : Nat} {y : α} {vs : List Value} {bs : List Nat} {F : World → Prop} (h : LotC c N w L ls gs) (hz : 0 < c.sz) (hi : i < ls.length) (hi2 : i < gs.length) (hq : q < ls[i].length) (hv : vs = c.enc y) (hbs : ∀ x ∈ gs[i].blk, x ∉ bs) (k : ∀ w1, LotC c N w1 L (ls.set i (ls[i].set q y)) gs → Upd (gs[i]).blk [] w w1 → F w1) : Store w ((gs[i]).at c.sz q) vs bs F := by
  have hgl := h.len
  refine own_set (h.each i hi) (h.owns _ (List.getElem_mem _)) hz hq hv hbs fun w1 h1 o1 u1 => k w1 ⟨?_, by rw [List.length_set]; exact hgl, fun j hj => ?_, ?_, fun x hx => ?_, h.dis, h.off⟩ u1
  · exact h.row.upd u1 (fun x hx hm => h.off _ (List.getElem_mem hi2) x hm hx)
  · have hj' : j < ls.length := by simpa using hj
    by_cases e : j = i
    · subst e
      have e1 : (ls.set j (ls[j].set q y))[j]'hj = ls[j].set q y := by simp
      rw [e1]
      exact h1
    · have e1 : (ls.set i (ls[i].set q y))[j]'hj = ls[j] := by
        rw [List.getElem_set_ne (by omega)]
      rw [e1]
      exact (h.each j hj').upd u1 (h.index j i (by omega) hi2 e)
  · exact h.own.upd u1 (fun x hx hm => h.off _ (List.getElem_mem hi2) x hm hx)
  · obtain ⟨j, hj, rfl⟩ := List.getElem_of_mem hx
    by_cases e : j = i
    · subst e; exact o1
    · exact (h.owns _ (List.getElem_mem hj)).upd u1 (h.index j i hj hi2 e)
end
/-- one mark more behind a list that holds one mark alone; b: the list as it was handed out -/
theorem app_mkB {α : Type} {c : Cod α} {w : World} {N k e by_ : Nat} {b s x : Sl} {y : α} {bs : List Nat} {F : Sl → World → Prop} (hb : Sees c w b (List.replicate b.len y)) (hs : Sees c w s (List.replicate k y)) (os : Own N c.sz w s) (hbk : b.len ≤ k) (hp : s.ptr = b.ptr ∨ ∀ z ∈ b.blk, z ∉ s.blk) (hx : Sees c w x [y]) (hN : N ≤ w.heap.size) (hbs : ∀ z ∈ b.blk, z < w.heap.size) (hbs2 : ∀ z ∈ s.blk, z ∉ bs) (hpos : 0 < by_) (hl : (k + 1) * by_ ≤ 140737488355328)
    (kk : ∀ r w1, Sees c w1 r (List.replicate (k + 1) y) → Own N c.sz w1 r → Sees c w1 b (List.replicate b.len y) → (r.ptr = b.ptr ∨ ∀ z ∈ b.blk, z ∉ r.blk) → Upd s.blk [] w w1 → (∀ z ∈ r.blk, z ∈ s.blk ∨ w.heap.size ≤ z) → F r w1) : Append e c.sz by_ s x bs w F := by
  refine append_two hs os hx hN hbs2 hpos (by simpa using hl) (fun r w1 hr hor hrp u _ _ => ?_) (fun r w1 hr hor u => ?_)
  · rw [show List.replicate k y ++ [y] = List.replicate (k + 1) y by rw [List.replicate_succ']] at hr
    have hrb : r.blk = s.blk := blk_ptr hrp
    refine kk r w1 hr hor ?_ ?_ u (fun z hz => .inl (hrb ▸ hz))
    · rcases hp with q | q
      · refine hr.prefix_ (hrp.trans q) ?_ (by simp)
        rw [List.length_replicate, List.drop_replicate, List.replicate_append_replicate]
        congr 1; omega
      · exact hb.upd u q
    · rcases hp with q | q
      · exact .inl (hrp.trans q)
      · exact .inr (by rw [hrb]; exact q)
  · rw [show List.replicate k y ++ [y] = List.replicate (k + 1) y by rw [List.replicate_succ']] at hr
    exact kk r w1 hr (hor.mono hN) (hb.old u) (.inr fun z hz hm => by have := hbs z hz; have := (hor.blk z hm).1; omega) (u.wide (by simp)) (fun z hz => .inr (hor.blk z hz).1)
end Go.Vc
end
