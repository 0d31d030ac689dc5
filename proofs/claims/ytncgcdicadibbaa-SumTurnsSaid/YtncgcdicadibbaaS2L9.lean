import Derived.Test.YtncgcdicadibbaaS2T9
import Derived.Test.YtncgcdicadibbaaS2C
import Derived.Test.YtncgcdicadibbaaS2G
import Derived.Test.YtncgcdicadibbaaRowB
open Go Go.Vc Go.Proofs
set_option linter.unusedVariables false
set_option linter.unusedSimpArgs false
set_option autoImplicit false
namespace Go.Vc.S2

/-- turning along, in the words of the folded sum r = 65535 - c -/
theorem fixL_main : ∀ (a b : List Int) (c T : Int), a.length = b.length → Byt a → Byt b → isW c → ws true a ≤ T → (65535 - c) % 65535 = T % 65535 → (c = 65535 → T = 0) →
    isW (fixL c a b) ∧ (65535 - fixL c a b) % 65535 = (T - ws true a + ws true b) % 65535 ∧ (a ≠ [] → fixL c a b < 65535) ∧ (a = [] → fixL c a b = c)
  | [], [], c, T, _, _, _, hc, hT, hm, hz => by
    simp only [fixL, ws, Int.sub_zero, Int.add_zero]
    exact ⟨hc, hm, fun h => absurd rfl h, fun _ => trivial⟩
  | [x], [y], c, T, _, ha, hb, hc, hT, hm, hz => by
    have h1 := ha x (by simp)
    have h2 := hb y (by simp)
    simp only [fixL, ws, if_true] at *
    unfold isW at *
    unfold fix1 fd
    refine ⟨by split <;> omega, by split <;> omega, fun _ => by split <;> omega, fun h => by cases h⟩
  | x :: x2 :: a, y :: y2 :: b, c, T, hl, ha, hb, hc, hT, hm, hz => by
    have h1 := ha x (by simp)
    have h2 := hb y (by simp)
    have h3 := ha x2 (by simp)
    have h4 := hb y2 (by simp)
    have ha' : Byt a := fun z hz => ha z (by simp [hz])
    have hb' : Byt b := fun z hz => hb z (by simp [hz])
    have w1 := ws_nonneg true ha'
    simp only [ws, Bool.not_true, Bool.not_false, if_true, Bool.false_eq_true, if_false] at hT
    have k := fix1_w hc (a := x * 256 + x2) (b := y * 256 + y2) (by unfold isW; omega) (by unfold isW; omega)
    have k2 : (65535 - fix1 c (x * 256 + x2) (y * 256 + y2)) % 65535 = (T - (x * 256 + x2) + (y * 256 + y2)) % 65535 ∧ fix1 c (x * 256 + x2) (y * 256 + y2) < 65535 := by
      unfold isW at hc
      unfold fix1 fd
      split <;> omega
    have ih := fixL_main a b (fix1 c (x * 256 + x2) (y * 256 + y2)) (T - (x * 256 + x2) + (y * 256 + y2)) (by simpa using hl) ha' hb' k (by omega) k2.1 (fun h => by omega)
    simp only [fixL, ws, Bool.not_true, Bool.not_false, if_true, Bool.false_eq_true, if_false]
    refine ⟨ih.1, ?_, fun _ => ?_, fun h => by cases h⟩
    · rw [ih.2.1]; congr 1; omega
    · by_cases he : a = []
      · rw [ih.2.2.2 he]; exact k2.2
      · exact ih.2.2.1 he
  | [], _ :: _, _, _, h, _, _, _, _, _, _ => by simp at h
  | _ :: _, [], _, _, h, _, _, _, _, _, _ => by simp at h
  | [_], _ :: _ :: _, _, _, h, _, _, _, _, _, _ => by simp at h
  | _ :: _ :: _, [_], _, _, h, _, _, _, _, _, _ => by simp at h
/-- an odd run: with the same byte behind both -/
theorem fixL_odd : ∀ (a b : List Int) (c x : Int), a.length = b.length → a.length % 2 = 1 → fixL c (a ++ [x]) (b ++ [x]) = fixL c a b
  | [], _, _, _, _, h => by simp at h
  | [p], [q], c, x, _, _ => by
    simp only [List.cons_append, List.nil_append, fixL, fix1]
    congr 2; omega
  | p :: p2 :: a, q :: q2 :: b, c, x, hl, ho => by
    simp only [List.cons_append, fixL]
    exact fixL_odd a b _ x (by simpa using hl) (by simp at ho; omega)
  | [_], [], _, _, h, _ => by simp at h
  | [_], _ :: _ :: _, _, _, h, _ => by simp at h
  | _ :: _ :: _, [], _, _, h, _ => by simp at h
  | _ :: _ :: _, [_], _, _, h, _ => by simp at h
/-- a run of bytes put in the place of another -/
def splice (l m : List Int) (p t : Nat) : List Int := l.take p ++ m.take t ++ l.drop (p + t)
theorem splice_len {l m : List Int} {p t : Nat} (h : p + t ≤ l.length) (h2 : t ≤ m.length) : (splice l m p t).length = l.length := by simp [splice]; omega
theorem splice_set {l m : List Int} {p t : Nat} (h : p + t < l.length) (h2 : t < m.length) : (splice l m p t).set (p + t) m[t] = splice l m p (t + 1) := by
  unfold splice
  rw [take_snoc h2, List.drop_eq_getElem_cons h]
  rw [List.set_append_right _ _ (by simp; omega)]
  have : p + t - (l.take p ++ m.take t).length = 0 := by simp; omega
  rw [this, List.set_cons_zero]
  simp only [List.append_assoc, List.cons_append, List.nil_append, Nat.add_assoc]
theorem splice_byt {l m : List Int} (hl : Byt l) (hm : Byt m) (p t : Nat) : Byt (splice l m p t) := ((hl.take _).app (hm.take _)).app (hl.drop _)
theorem splice_ws {l m : List Int} {p t : Nat} (hp : p % 2 = 0) (h : p + t ≤ l.length) (h2 : t ≤ m.length) :
    ws true (splice l m p t) = ws true l - ws true ((l.take (p + t)).drop p) + ws true (m.take t) ∧ ws true ((l.take (p + t)).drop p) + ws true (l.take p) + ws (par true t) (l.drop (p + t)) = ws true l := by
  have e1 : l = l.take p ++ ((l.take (p + t)).drop p ++ l.drop (p + t)) := by
    have h1 : (l.take (p + t)).drop p ++ l.drop (p + t) = l.drop p := by
      rw [List.drop_take, Nat.add_sub_cancel_left, ← List.drop_drop, List.take_append_drop]
    rw [h1, List.take_append_drop]
  have hpar : par true (l.take p).length = true := by unfold par; rw [if_pos (by rw [List.length_take]; omega)]
  have l1 : ((l.take (p + t)).drop p).length = t := by simp; omega
  have l2 : (m.take t).length = t := by simp; omega
  have e2 : ws true l = ws true (l.take p) + (ws true ((l.take (p + t)).drop p) + ws (par true t) (l.drop (p + t))) := by
    have := congrArg (ws true) e1
    rw [ws_app, ws_app, hpar, l1] at this
    exact this
  unfold splice
  rw [List.append_assoc, ws_app, ws_app, hpar, l2]
  omega
/-- what SumTurns asks -/
theorem turn_law {l m : List Int} {p t : Nat} (hl : Byt l) (hm : Byt m) (hp : p % 2 = 0) (h : p + t ≤ l.length) (h2 : t ≤ m.length) :
    ((∀ x ∈ splice l m p t, x = 0) → sumOf (splice l m p t) = 0 ∧ (t ≠ 0 → fixL (65535 - sumOf l) ((l.take (p + t)).drop p) (m.take t) = 0)) ∧
    (¬ (∀ x ∈ splice l m p t, x = 0) → fixL (65535 - sumOf l) ((l.take (p + t)).drop p) (m.take t) = 65535 - sumOf (splice l m p t)) := by
  have hw := splice_ws hp h h2
  have hb := splice_byt hl hm p t
  have n1 := ws_nonneg true hl
  have n2 := ws_nonneg true hb
  have n3 := ws_nonneg true (hl.take p)
  have n4 := ws_nonneg (par true t) (hl.drop (p + t))
  have hr := fd_range n1.1
  have l1 : ((l.take (p + t)).drop p).length = t := by simp; omega
  have l2 : (m.take t).length = t := by simp; omega
  have key := fixL_main ((l.take (p + t)).drop p) (m.take t) (65535 - sumOf l) (ws true l) (by rw [l1, l2]) ((hl.take _).drop _) (hm.take _) (by unfold isW sumOf; omega) (by omega)
    (by unfold sumOf fd; split <;> omega) (fun h => by unfold sumOf at h; exact (fd_zero n1.1).1 (by omega))
  have hz := ws_zero true hb
  have ht : t ≠ 0 → (l.take (p + t)).drop p ≠ [] := fun h3 he => by rw [he] at l1; simp at l1; omega
  have ht0 : t = 0 → (l.take (p + t)).drop p = [] := fun h3 => List.eq_nil_of_length_eq_zero (by rw [l1, h3])
  unfold isW at key
  constructor
  · intro h0
    have h1 := hz.2 h0
    refine ⟨by unfold sumOf; rw [h1]; rfl, fun h3 => ?_⟩
    have := key.2.2.1 (ht h3)
    omega
  · intro h0
    have h1 : ws true (splice l m p t) ≠ 0 := fun h => h0 (hz.1 h)
    by_cases h3 : t = 0
    · rw [key.2.2.2 (ht0 h3)]
      subst h3
      congr 2
      simp [splice]
    · have := key.2.2.1 (ht h3)
      unfold sumOf fd at *
      rw [if_neg h1]
      omega

theorem flat1 (l : List Int) : [l].flatten = l := by simp
theorem take_as_sub {w : World} {s : Sl} {l : List Int} (h : SeesB w s l) {n : Nat} (hn : n ≤ l.length) (hc : s.len ≤ s.cap) : SeesB w (s.sub 1 0 n s.cap) (l.take n) := by
  have hl := h.len
  have := h.subB (lo := 0) (hi := n) (mx := s.cap) (by omega) hn (by omega)
  simpa using this

theorem c9 {b now : Sl} {l m : List Int} {at_ : Int} {w : World} (h : SeesB w b l) (hb : Byt l) (hc : b.len ≤ b.cap) (hn : SeesB w now m) (hbm : Byt m) (hcn : now.len ≤ now.cap) (hml : m.length ≤ 9223372036854775807) (ha : -9223372036854775808 ≤ at_ ∧ at_ ≤ 9223372036854775807) :
    Ret Try.prog 9 [.slice b, .int .i64 at_, .slice now] w fun r w1 => r = .bool true ∧ Upd [] [] w w1 := by
  refine f9_of _ _ _ _ _ ?_
  unfold vc9
  refine c23 h hc fun s w1 u1 hs ho => ⟨_, rfl, ?_⟩
  intro J hJ
  have hev := evenOf_len l
  have hbe := evenOf_byt hb
  have hsl := hs.len
  have hnl := hn.len
  generalize evenOf l = q at hs hev hbe hsl
  clear h hb hc
  refine bre (fun h0 => ?_) (fun h0 => ?_)
  · exact c13 fun w2 u2 => ⟨_, rfl, rfl, u1.then u2⟩
  refine c13 fun w2 u2 => ⟨_, rfl, brf (by decide) (hJ _ ?_)⟩
  clear hJ
  have v2 := u1.then u2
  have hs2 := hs.old u2
  have ho2 := ho.old u2
  have hn2 := hn.old v2
  clear hs ho u1 u2
  have hpl := placeOf_range (n := s.len) at_ (by omega) (by omega)
  refine c24 (by omega) (by omega) (by omega) ha ⟨_, rfl, ?_⟩
  generalize placeOf s.len at_ = p at hpl ⊢
  rw [hsl] at hpl
  obtain ⟨p, rfl⟩ := Int.eq_ofNat_of_zero_le hpl.1
  intro J hJ
  have key : ∀ t : Nat, p + t ≤ q.length → t ≤ m.length → J (t : Int) w2 := by
    intro t hpt htm
    refine hJ _ _ ?_
    clear hJ
    have law := turn_law hbe hbm (p := p) (t := t) (by omega) hpt htm
    have o1 : ((q.take (p + t)).drop p).length = t := by simp; omega
    have o2 : (m.take t).length = t := by simp; omega
    have hbo : Byt ((q.take (p + t)).drop p) := (hbe.take _).drop _
    have hbn : Byt (m.take t) := hbm.take _
    have hrr := fd_range (ws_nonneg true hbe).1
    have hcw : isW (65535 - sumOf q) := by unfold isW sumOf; omega
    intro b3 w3 u3 hrow3
    have hs3 := hs2.old u3
    have ho3 := ho2.old u3
    have v3 := v2.then u3
    have hn3 := hn2.old u3
    have p3 := rowP (n := 1) (cap := 1) hrow3 (ss := [s]) rfl rfl (ls := [_]) ⟨hs3, trivial⟩
    refine c17 p3 (by simpa using hbe) (by simp) (by simp; omega) ⟨_, rfl, ?_⟩
    rw [flat1]
    have hcap := ho3.le
    rw [wr_i64 (x := (p : Int) + (t : Int)) (by omega) (by omega)]
    have e1 : ((p : Int) + (t : Int)).toNat = p + t := by omega
    rw [e1, Int.toNat_natCast, Int.toNat_natCast]
    refine need (by simp; omega) ?_
    have hso := hs3.subB (lo := p) (hi := p + t) (mx := s.cap) (by omega) hpt (by omega)
    refine append_own (c := cU8) (Sees.nil _ _ _ _) (Own.none w3.heap.size _ _) hso (by omega) (by simp) (by omega) (by simp; omega) fun r w4 hr4 hor4 u4 _ => ?_
    have u4' : Upd [] [] w3 w4 := u4
    have v4 := v3.then u4'
    have hs4 := hs3.old u4'
    have ho4 := ho3.old u4'
    have hn4 := hn3.old u4'
    simp only [List.nil_append] at hr4
    generalize hO : (q.take (p + t)).drop p = O at *
    generalize hM : m.take t = M at *
    refine needIxLe (by omega) (by omega) ?_
    have hnM := take_as_sub hn4 htm hcn
    rw [hM] at hnM
    have e0 : fixLErr (65535 - sumOf q) O M = 0 := by unfold fixLErr; rw [if_pos hcw, if_pos (by omega)]
    have e0' : fixLOf (65535 - sumOf q) O M = fixL (65535 - sumOf q) O M := by unfold fixLOf; rw [if_pos e0]
    refine c30 hr4 hnM hbo hbn (by omega) (by omega) ⟨_, _, rfl, ?_⟩
    rw [e0, e0']
    generalize hF : fixL (65535 - sumOf q) O M = F at *
    intro J2 hJ2
    -- what stands at the end
    have fin : ∀ (w5 : World), Upd [] [] w w5 → SeesB w5 s q → Own w.heap.size 1 w5 s → SeesB w5 now m → (∃ (I : Int → World → Prop), ∃ (M_1 : Int → World → Nat), I 0 w5 ∧ ∀ (n_7 : Int) (w1 : World), I n_7 w1 →
        Br (decide (n_7 < (t : Int))) (Need (decide (0 ≤ n_7) && decide (n_7 < (now.len : Int)) && now.ptr.isSome) (∃ (n_8 : Int), w1.cell? (now.at 1 n_7.toNat) = some (.int .u8 n_8) ∧
          Need (decide (0 ≤ wr .i64 ((p : Int) + n_7)) && decide (wr .i64 ((p : Int) + n_7) < (s.len : Int)) && s.ptr.isSome) (Store w1 (s.at 1 (wr .i64 ((p : Int) + n_7)).toNat) (SV.cells (.int .u8 n_8)) [] fun w1_2 => I (wr .i64 (n_7 + 1)) w1_2 ∧ M_1 (wr .i64 (n_7 + 1)) w1_2 < M_1 n_7 w1)))
        (Ret Try.prog 32 [.slice s] w1 fun r w1 => ∃ (b : Bool), r = .bool b ∧
          Br b (∀ (b : Nat) (w1_2 : World), Upd [] [b] w1 w1_2 → w1_2.heap[b]? = some (.cells (SV.cells (.struct [.slice s])).toArray 24 (0, 0)) →
              Ret Try.prog 17 [.slice ⟨some ⟨b, 0, none⟩, 1, 1⟩] w1_2 fun r w1 => ∃ (n : Int), r = .int .i64 n ∧ Br (n == 65535) (Br ((t : Int) == 0) (SV.bool true = .bool true ∧ Upd [] [] w w1) (SV.bool (F == 0) = .bool true ∧ Upd [] [] w w1)) (SV.bool false = .bool true ∧ Upd [] [] w w1))
            (∀ (b : Nat) (w1_2 : World), Upd [] [b] w1 w1_2 → w1_2.heap[b]? = some (.cells (SV.cells (.struct [.slice s])).toArray 24 (0, 0)) →
              Ret Try.prog 17 [.slice ⟨some ⟨b, 0, none⟩, 1, 1⟩] w1_2 fun r w1 => ∃ (n : Int), r = .int .i64 n ∧ (SV.bool (F == n) = .bool true ∧ Upd [] [] w w1)))) := by
      intro w5 v5 hs5 ho5 hn5
      refine ⟨fun i w6 => Upd [] [] w w6 ∧ Own w.heap.size 1 w6 s ∧ SeesB w6 now m ∧ ∃ k : Nat, i = k ∧ k ≤ t ∧ SeesB w6 s (splice q m p k), fun i _ => (t - i).toNat, ⟨v5, ho5, hn5, 0, rfl, by omega, by simpa [splice] using hs5⟩, ?_⟩
      rintro i w6 ⟨v6, ho6, hn6, k, rfl, hk, hs6⟩
      have hlk := splice_len (l := q) (m := m) (p := p) (t := k) (by omega) (by omega)
      refine brd (fun hlt => ?_) (fun hge => ?_)
      · rw [wr_i64 (x := (p : Int) + (k : Int)) (by omega) (by omega)]
        refine needB hn6 (by omega) (by omega) ⟨_, hn6.byte (by omega) (by omega), needB hs6 (by omega) (by omega) ?_⟩
        refine own_set (c := cU8) hs6 ho6 (by decide) (by omega) rfl (by simp) fun w7 hs7 ho7 u7 => ?_
        have e2 : ((p : Int) + (k : Int)).toNat = p + k := by omega
        rw [e2, bt_nat (by omega), splice_set (by omega) (by omega)] at hs7
        have v7 := v6.step0 u7 (fun x hx => (ho6.blk x hx).1)
        refine ⟨⟨v7, ho7, ?_, k + 1, wr_succ (by omega), by omega, hs7⟩, by rw [wr_succ (by omega)]; (try dsimp only); omega⟩
        exact hn.upd' hn6 u7 (fun x hx => (ho6.blk x hx).1)
      · have : k = t := by omega
        subst this
        have hbs := splice_byt hbe hbm p k
        refine c32 hs6 (by omega) fun w7 u7 => ⟨_, rfl, brd (fun hz => ?_) (fun hz => ?_)⟩
        · have hl := law.1 hz
          intro b8 w8 u8 hrow8
          have p8 := rowP (n := 1) (cap := 1) hrow8 (ss := [s]) rfl rfl (ls := [_]) ⟨(hs6.old u7).old u8, trivial⟩
          refine c17 p8 (by simpa using hbs) (by simp) (by simp; omega) ⟨_, rfl, ?_⟩
          rw [flat1]
          rw [hl.1]
          refine brt (by decide) (bre (fun h9 => ⟨rfl, (v6.then u7).then u8⟩) (fun h9 => ⟨?_, (v6.then u7).then u8⟩))
          rw [hl.2 (by omega)]; rfl
        · have hl := law.2 hz
          intro b8 w8 u8 hrow8
          have p8 := rowP (n := 1) (cap := 1) hrow8 (ss := [s]) rfl rfl (ls := [_]) ⟨(hs6.old u7).old u8, trivial⟩
          refine c17 p8 (by simpa using hbs) (by simp) (by simp; omega) ⟨_, rfl, ?_⟩
          rw [flat1]
          rw [← hl]
          exact ⟨by simp, (v6.then u7).then u8⟩
    refine ⟨fun e d i w5 => e = 0 ∧ Upd [] [] w4 w5 ∧ isW d ∧ ∃ k : Nat, i = k ∧ k % 2 = 0 ∧ k ≤ t + 1 ∧ fixL d (O.drop k) (M.drop k) = F, fun _ _ i _ => (t + 2 - i).toNat, ⟨rfl, Upd.refl w4, hcw, 0, rfl, rfl, by omega, by simpa using hF⟩, ?_⟩
    rintro e d i w5 ⟨rfl, u5, hd, k, rfl, hk2, hk, hFk⟩
    have hr5 := hr4.old u5
    have hs5 := hs4.old u5
    have ho5 := ho4.old u5
    have hn5 := hn4.old u5
    have v5 := v4.then u5
    intro J1 hJ1
    have ek : wr .i64 ((k : Int) + 1) = (k : Int) + 1 := wr_i64 (by omega) (by omega)
    rw [ek]
    refine brd (fun hlt => brt (by decide) (hJ1 _ ?_)) (fun hge => hJ2 _ _ _ ?_)
    · -- one word more
      clear hJ1 hJ2
      rw [ek]
      have hx0 := hbo.bt (k : Int)
      have hx1 := hbo.bt ((k : Int) + 1)
      have hy0 := hbm.bt (k : Int)
      have hy1 := hbm.bt ((k : Int) + 1)
      have hor : ∀ a b : Int, 0 ≤ a ∧ a < 256 → 0 ≤ b ∧ b < 256 → ior .i64 (gshl .i64 (wr .i64 a) 8) (wr .i64 b) = a * 256 + b := by
        intro a b h1 h2
        rw [wr_i64 (x := a) (by omega) (by omega), wr_i64 (x := b) (by omega) (by omega), gshl8, wr_i64 (by omega) (by omega)]
        exact ior_add 8 (by omega) (by omega) (by omega) (by omega) (by omega) (by omega)
      refine needB hr5 (by omega) (by omega) ⟨_, hr5.byte (by omega) (by omega), needB hr5 (by omega) (by omega) ⟨_, hr5.byte (by omega) (by omega), ?_⟩⟩
      refine needB hn5 (by omega) (by omega) ⟨_, hn5.byte (by omega) (by omega), needB hn5 (by omega) (by omega) ⟨_, hn5.byte (by omega) (by omega), ?_⟩⟩
      rw [hor _ _ hx0 hx1, hor _ _ hy0 hy1]
      intro w6 u6
      have hbm1 : bt m (k : Int) * 256 + bt m ((k : Int) + 1) = wordAt M (k : Int) := by
        unfold wordAt
        rw [if_pos (by omega), ← hM]
        have e2 : (k : Int) + 1 = ((k + 1 : Nat) : Int) := by omega
        rw [e2, bt_nat (by omega), bt_nat (by omega), bt_nat (by simp; omega), bt_nat (by simp; omega)]
        simp
      have hbo1 : bt O (k : Int) * 256 + bt O ((k : Int) + 1) = wordAt O (k : Int) := by unfold wordAt; rw [if_pos (by omega)]
      rw [hbm1, hbo1]
      have hw1 := wordAt_w hbo (k : Int)
      have hw2 := wordAt_w hbn (k : Int)
      have e2 : fixOf d (wordAt O k) (wordAt M k) = fix1 d (wordAt O k) (wordAt M k) := by unfold fixOf; rw [if_pos ⟨hd, hw1, hw2⟩]
      have e3 : fixErr d (wordAt O k) (wordAt M k) = 0 := by unfold fixErr; rw [if_pos ⟨hd, hw1, hw2⟩]
      refine c28 ⟨_, _, rfl, ?_⟩
      rw [e2, e3]
      refine ⟨⟨rfl, u5.then u6, fix1_w hd hw1 hw2, k + 2, ?_, by omega, by omega, ?_⟩, ?_⟩
      · rw [wr_i64 (by omega) (by omega)]; omega
      · rw [← hFk]; exact (fixL_step (by omega) (by omega)).symm
      · rw [wr_i64 (by omega) (by omega)]; (try dsimp only); omega
    · clear hJ1 hJ2
      intro J3 hJ3
      have tm : ∀ t : Nat, Int.tmod (t : Int) 2 = (t : Int) % 2 := fun t => tmod_pos (by omega)
      have htw : Int.tmod (t : Int) 2 = (t : Int) % 2 := tm t
      refine brf (by decide) ?_
      rw [htw]
      have hev2 : (t : Int) % 2 = 0 → F = d := by
        intro h2
        have : k = t := by omega
        subst this
        rw [List.drop_of_length_le (by omega), List.drop_of_length_le (by omega), fixL_nil] at hFk
        exact hFk.symm
      have goJ : J3 w5 := by
        refine hJ3 _ ?_
        clear hJ3
        intro J4 hJ4
        refine bre (fun hodd => ?_) (fun heven => hJ4 _ (fin w5 v5 hs5 ho5 hn5))
        have hpt2 : p + t < q.length := by omega
        refine needB hs5 (by omega) (by omega) ⟨_, (by rw [← e1]; exact hs5.byte (by omega) (by omega)), ?_⟩
        have hxb := hbe.bt ((p : Int) + (t : Int))
        generalize hx : bt q ((p : Int) + (t : Int)) = x at hxb ⊢
        intro b6 w6 u6 hrow6
        have v6 := v5.then u6
        have hor6 := (hor4.old u5).old u6
        refine append_own (c := cU8) (new := [x]) (hr5.old u6) hor6 (rowB hrow6 _ rfl rfl) (by have := u4'.size; have := u5.size; have := u6.size; omega) (by simp) (by omega) (by simp; omega) fun r7 w7 hr7 hor7 u7 hnew7 => ?_
        have v7 := v6.step0 u7 (fun y hy => by have := (hor6.blk y hy).1; have := v3.size; omega)
        have hz3 := v3.size
        have hu4 := u4'.size
        have hdis : ∀ y ∈ s.blk, y ∉ r.blk := fun y hy hy2 => by
          have := (ho3.blk y hy).2
          have := (hor6.blk y hy2).1
          omega
        have hs7 := (hs5.old u6).upd u7 hdis
        have ho7 := (ho5.old u6).upd u7 hdis
        have hn7 := hn.upd' (hn5.old u6) u7 (fun y hy => by have := (hor6.blk y hy).1; omega)
        refine needIxLe (by omega) (by omega) ?_
        refine needB hs7 (by omega) (by omega) ⟨_, (by rw [← e1]; exact hs7.byte (by omega) (by omega)), ?_⟩
        rw [hx]
        have hsz5 := u5.size
        have hsz6 := u6.size
        have hsz7 := u7.size
        -- what follows, whatever the order
        have tail : ∀ (r8 : Sl) (w8 : World), Upd [] [] w7 w8 → SeesB w8 r8 (M ++ [x]) → Ret Try.prog 30 [.int .i64 (65535 - sumOf q), .slice r7, .slice r8] w8 fun r w1 => ∃ (n n_9 : Int), r = .tuple [.int .i64 n, .int .i64 n_9] ∧
            Br (n_9 != 0) (SV.bool false = .bool true ∧ Upd [] [] w w1) (Br (F != n) (SV.bool false = .bool true ∧ Upd [] [] w w1) (J4 w1)) := by
          intro r8 w8 u8 hr8
          have e8 : fixLErr (65535 - sumOf q) (O ++ [x]) (M ++ [x]) = 0 := by unfold fixLErr; rw [if_pos hcw, if_pos (by simp; omega)]
          have e9 : fixLOf (65535 - sumOf q) (O ++ [x]) (M ++ [x]) = F := by unfold fixLOf; rw [if_pos e8, fixL_odd _ _ _ _ (by omega) (by omega), hF]
          have hxl : Byt [x] := by intro y hy; simp at hy; subst hy; exact hxb
          refine c30 (hr7.old u8) hr8 (hbo.app hxl) (hbn.app hxl) (by simp; omega) (by simp; omega) ⟨_, _, rfl, ?_⟩
          rw [e8, e9]
          exact brf (by decide) (brf (by simp) (hJ4 _ (fin w8 (v7.then u8) (hs7.old u8) (ho7.old u8) (hn7.old u8))))
        have hM7 : ∀ w, SeesB w now m → SeesB w (now.sub 1 0 t now.cap) M := fun w hw => by
          have := take_as_sub hw htm hcn
          rwa [hM] at this
        refine ⟨fun w8 u8 => ?_, fun b8 w8 u8 hrow8 => ?_⟩
        · refine append_own (c := cU8) (Sees.nil _ _ _ _) (Own.none w8.heap.size _ _) (hM7 _ (hn7.old u8)) (by omega) (by simp) (by omega) (by simp; omega) fun r9 w9 hr9 hor9 u9 _ => ?_
          have u9' : Upd [] [] w8 w9 := u9
          refine ⟨u8.then u9', ?_⟩
          intro b10 w10 u10 hrow10
          simp only [List.nil_append] at hr9
          refine append_own (c := cU8) (new := [x]) (hr9.old u10) (hor9.old u10) (rowB hrow10 _ rfl rfl) (by have := u9'.size; have := u10.size; omega) (by simp) (by omega) (by simp; omega) fun r11 w11 hr11 _ u11 _ => ?_
          exact tail r11 w11 (((u8.then u9').then u10).step0 u11 (fun y hy => by have := ((hor9.old u10).blk y hy).1; have := u8.size; omega)) hr11
        · refine append_own (c := cU8) (Sees.nil _ _ _ _) (Own.none w8.heap.size _ _) (hM7 _ (hn7.old u8)) (by omega) (by simp) (by omega) (by simp; omega) fun r9 w9 hr9 hor9 u9 _ => ?_
          have u9' : Upd [] [] w8 w9 := u9
          refine ⟨u8.then u9', ?_⟩
          simp only [List.nil_append] at hr9
          have hrow9 := (rowB (n := 1) (cap := 1) hrow8 [x] rfl rfl).old u9'
          refine append_own (c := cU8) (new := [x]) hr9 hor9 hrow9 (by have := u9'.size; omega) (by simp) (by omega) (by simp; omega) fun r11 w11 hr11 _ u11 _ => ?_
          exact tail r11 w11 ((u8.then u9').step0 u11 (fun y hy => by have := (hor9.blk y hy).1; have := u8.size; omega)) hr11
      refine bre (fun h2 => ?_) (fun h2 => goJ)
      rw [← hev2 h2]
      exact brf (by simp) goJ
  rw [wr_i64 (x := (s.len : Int) - (p : Int)) (by omega) (by omega)]
  refine brd (fun hgt => ?_) (fun hle => ?_)
  · have := key (q.length - p) (by omega) (by omega)
    rw [hsl]
    rwa [show ((q.length - p : Nat) : Int) = (q.length : Int) - (p : Int) by omega] at this
  · rw [hnl]
    exact key m.length (by omega) (by omega)

theorem walk9 {H : Type} {W : World} (svs : List SV) (ds : List (DataW H)) (h : ArgsD X W [24, 3, 24] svs ds) :
    Ret Try.prog 9 svs W fun r w1 => r = .bool true ∧ Upd [] [] W w1 := by
  obtain ⟨x, _, d1, _, m1, rfl, rfl, h1, h⟩ := argsD_cons h
  obtain ⟨y, _, d2, _, m2, rfl, rfl, h2, h⟩ := argsD_cons h
  obtain ⟨z, _, d3, _, m3, rfl, rfl, h3, h⟩ := argsD_cons h
  obtain ⟨rfl, rfl⟩ := argsD_nil h
  obtain ⟨s, l, rfl, hs, hbl, hc, _⟩ := deep_bytes (t := 24) (e := 5) rfl rfl h1
  obtain ⟨a, rfl, ha⟩ := deep_int (t := 3) (k := .i64) rfl h2
  obtain ⟨s2, l2, rfl, hs2, hbl2, hc2, hm2, _⟩ := deep_bytes (t := 24) (e := 5) rfl rfl h3
  exact c9 hs hbl hc hs2 hbl2 hc2 (by have := hs2.len; simp only [maxLen] at hm2; omega) (wf_i64 ha)
end Go.Vc.S2
