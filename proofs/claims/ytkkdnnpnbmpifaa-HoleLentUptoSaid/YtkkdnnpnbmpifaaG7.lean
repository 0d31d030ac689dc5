import Derived.Test.YtkkdnnpnbmpifaaG6
section
open Go Go.Vc Go.Proofs
set_option linter.unusedVariables false
set_option linter.unusedSimpArgs false
set_option autoImplicit false
namespace Go.Vc.S11
/-- a Holes in order, as far as the walk needs it -/
structure OkS (S : Hs) : Prop where
  mx : 1 ≤ S.max ∧ S.max ≤ 65535
  gp : ∀ g ∈ S.gaps, 0 ≤ g.1 ∧ g.1 < g.2 ∧ g.2 ≤ S.max
  gl : S.gaps.length ≤ 65536
  bl : S.buf.length ≤ 65535
  bb : Byt S.buf
  he : 0 ≤ S.held ∧ S.held ≤ 65535
  fi : -1 ≤ S.fin ∧ S.fin ≤ 65535
  ks : ∀ k ∈ S.seen, KeyR k
theorem errS_ok {S : Hs} {off : Int} {n : Nat} {more : Bool} (h : errS S off n more = 0) : n ≤ 65535 ∧ 0 ≤ off ∧ off.tmod 8 = 0 ∧ (more = true → n % 8 = 0) ∧ 0 < n ∧ off + n ≤ S.max ∧ (0 ≤ S.fin → more = false → off + n = S.fin) ∧ (0 ≤ S.fin → more = true → off + n ≤ S.fin) ∧ (S.fin < 0 → more = false → topS S ≤ off + n) := by
  unfold errS at h
  split at h; · cases h
  split at h; · cases h
  rename_i h1 h2
  split at h; · cases h
  split at h; · cases h
  split at h; · cases h
  split at h; · cases h
  split at h; · cases h
  rename_i h3 h4 h5 h6 h7
  have a1 : 0 ≤ off := by
    rcases Int.lt_or_le off 0 with q | q
    · exact absurd (.inl q) h2
    · exact q
  have a2 : off.tmod 8 = 0 := Classical.byContradiction fun q => h2 (.inr (.inl q))
  refine ⟨by omega, a1, a2, fun hm => Classical.byContradiction fun q => h2 (.inr (.inr ⟨hm, q⟩)), by omega, by omega, fun x y => Classical.byContradiction fun q => h5 ⟨x, y, q⟩, fun x y => ?_, fun x y => ?_⟩
  · exact Int.not_lt.1 fun q => h6 ⟨x, y, q⟩
  · exact Int.not_lt.1 fun q => h7 ⟨x, y, q⟩
theorem blit_len {l d : List Int} {i : Nat} (h : i + d.length ≤ l.length) : (blit l i d).length = l.length := by simp [blit]; omega
theorem blit_byt {l d : List Int} {i : Nat} (hl : Byt l) (hd : Byt d) : Byt (blit l i d) := by
  intro x hx
  simp only [blit, List.mem_append] at hx
  rcases hx with (hx | hx) | hx
  · exact hl x (List.mem_of_mem_take hx)
  · exact hd x hx
  · exact hl x (List.mem_of_mem_drop hx)
theorem newN_bound {off e : Int} (h1 : 0 ≤ off) (h2 : e ≤ 65535) (hoe : off < e) : ∀ (l : List (Int × Int)), (∀ g ∈ l, 0 ≤ g.1 ∧ g.1 < g.2) → 0 ≤ newN off e l ∧ newN off e l ≤ 65535 * l.length
  | [], _ => by simp [newN]
  | g :: r, h => by
    have ih := newN_bound h1 h2 hoe r (fun x hx => h x (by simp [hx]))
    have hg := h g (by simp)
    unfold newN
    simp only [List.length_cons]
    split
    · omega
    · split
      · omega
      · omega
section
variable {w : World} {R : SV → World → Prop} {N h m : Nat} {S : Hs} {B G : Sl}
theorem mem_seen {l : List (Int × Int × Bool)} {k : Int × Int × Bool} : (∃ p ∈ seenL l, p.1 = (keyS k).enc) ↔ k ∈ l := by
  simp only [seenL, List.mem_map]
  constructor
  · rintro ⟨p, ⟨k', hk', rfl⟩, hp⟩
    rw [← keyS_inj hp]; exact hk'
  · intro hk
    exact ⟨_, ⟨k, hk, rfl⟩, rfl⟩
theorem keys_ok {l : List (Int × Int × Bool)} {k : Int × Int × Bool} (hl : ∀ k ∈ l, KeyR k) (hk : KeyR k) : KeysOk Try.prog 80 (keyS k).enc (seenL l) := by
  refine ⟨keyLaw80, key_ok hk, fun p hp => ?_⟩
  simp only [seenL, List.mem_map] at hp
  obtain ⟨k', hk', rfl⟩ := hp
  exact key_ok (hl k' hk')
theorem seen_shape {l : List (Int × Int × Bool)} : AllShape (.struct false []) (seenL l) := by
  intro p hp
  simp only [seenL, List.mem_map] at hp
  obtain ⟨k', _, rfl⟩ := hp
  rfl
theorem seen_set {l : List (Int × Int × Bool)} {k : Int × Int × Bool} {l' : List (Value × SV)} (h : SetAt (seenL l) (keyS k).enc (.struct []) l') : l' = seenL (if k ∈ l then l else l ++ [k]) := by
  rcases h with ⟨h1, rfl⟩ | ⟨i, hi, h1, rfl⟩
  · have : k ∉ l := fun hk => by
      obtain ⟨p, hp, e⟩ := mem_seen.2 hk
      exact h1 p hp e
    rw [if_neg this]
    simp [seenL]
  · have hm : k ∈ l := mem_seen.1 ⟨(seenL l)[i], List.getElem_mem hi, h1⟩
    rw [if_pos hm]
    have : (seenL l)[i] = ((keyS k).enc, SV.struct []) := by
      apply Prod.ext
      · exact h1
      · simp [seenL]
    rw [← this]
    exact List.set_getElem_self hi
/-- the map is told, and it is returned -/
theorem putEnd {off E n : Int} {dl : Int} {more bb : Bool} {bs : List Nat} {b0 : Nat} {S' : Hs} {B' G' : Sl} {w0 w1 : World} (H : Hol N w1 h S' B' G' m) (hk : ∀ k ∈ S'.seen, KeyR k) (hkr : KeyR (off, dl, more)) (hbs : m ∉ bs)
    (hb0 : w0.heap.size ≤ b0) (V : Upd (hblk h B G m) [] w0 w1) (hb02 : b0 ∉ hblk h B' G' m)
    (k : ∀ w2, Upd (hblk h B G m) [] w0 w2 → Hol N w2 h { S' with seen := if (off, dl, more) ∈ S'.seen then S'.seen else S'.seen ++ [(off, dl, more)] } B' G' m → R (.tuple [.struct [.int .i64 n, .int .i64 E, .bool bb], .int .i64 0]) w2) :
    deref (some ⟨h, 0, none⟩) fun a => ∃ r : Option Nat, w1.cell? (a.add 5) = some (.map r) ∧ derefN r fun r => ∀ w2, Upd [] [] w1 w2 → Try.prog.underlying 74 = some (.map 80 81) ∧ r ∉ bs ∧ ∃ l, MapL w2 r l ∧ KeysOk Try.prog 80 (SV.struct [.int .i64 off, .int .i64 dl, .bool more]).enc l ∧
      ∀ l' w3, SetAt l (SV.struct [.int .i64 off, .int .i64 dl, .bool more]).enc (.struct []) l' → Upd [r] [] w2 w3 → MapL w3 r l' → ∀ w4, Upd [b0] [] w3 w4 → R (.tuple [.struct [.int .i64 n, .int .i64 E, .bool bb], .int .i64 0]) w4 := by
  refine ⟨some m, H.box.mp 5 (some m) rfl, fun w2 u2 => ⟨und74, hbs, seenL S'.seen, H.map.upd u2 (by simp), keys_ok (k := (off, dl, more)) hk hkr, fun l' w3 hs u3 hm3 w4 u4 => ?_⟩⟩
  have e := seen_set (k := (off, dl, more)) hs
  subst e
  have H2 := H.old u2
  have a1 := H2.a1; have a2 := H2.a2
  have q : ∀ x ∈ hblk h B' G' m, x ≠ b0 := fun x hx e => hb02 (e ▸ hx)
  have HB : ∀ x ∈ B'.blk, x ∉ [m] ∧ x ∉ [b0] := fun x hx => ⟨fun e => a2.1 (by simp at e; exact e ▸ hx), by simpa using q x (by simp [hblk, hx])⟩
  have HG : ∀ x ∈ G'.blk, x ∉ [m] ∧ x ∉ [b0] := fun x hx => ⟨fun e => a2.2 (by simp at e; exact e ▸ hx), by simpa using q x (by simp [hblk, hx])⟩
  have Hh : h ∉ [m] ∧ h ∉ [b0] := ⟨by simpa using a1.2.2, by simpa using q h (by simp [hblk])⟩
  have z3 := u3.size; have z4 := u4.size
  have V2 : Upd (hblk h B G m) [] w0 w2 := V.step u2 (by simp)
  have V3 : Upd (hblk h B G m) [] w0 w3 := V2.step u3 (fun x hx => .inr (by rw [List.mem_singleton] at hx; subst hx; simp [hblk]))
  have V4 : Upd (hblk h B G m) [] w0 w4 := V3.step u4 (fun x hx => .inl (by rw [List.mem_singleton] at hx; subst hx; exact hb0))
  have b4 := (H2.box.upd u3 Hh.1).upd u4 Hh.2
  have c4 := (H2.buf.upd u3 fun x hx => (HB x hx).1).upd u4 fun x hx => (HB x hx).2
  have d4 := (H2.bo.upd u3 fun x hx => (HB x hx).1).upd u4 fun x hx => (HB x hx).2
  have e4 := (H2.gaps.upd u3 fun x hx => (HG x hx).1).upd u4 fun x hx => (HG x hx).2
  have f4 := (H2.go.upd u3 fun x hx => (HG x hx).1).upd u4 fun x hx => (HG x hx).2
  have g4 := hm3.upd u4 (by simpa using q m (by simp [hblk]))
  exact k w4 V4 ⟨b4, c4, d4, e4, f4, g4, H2.a1, H2.a2, H2.a3, ⟨H2.base.1, H2.base.2.1, by have := H2.base.2.2; omega⟩⟩
end
end Go.Vc.S11
end

section
open Go Go.Vc Go.Proofs
set_option linter.unusedVariables false
set_option linter.unusedSimpArgs false
set_option autoImplicit false
namespace Go.Vc.S11
section
variable {w : World} {R : SV → World → Prop} {N h m : Nat} {S : Hs} {B G : Sl}
theorem imin_min (a b : Int) : imin a b = min a b := by unfold imin; omega
theorem imax_max (a b : Int) : imax a b = max a b := by unfold imax; omega
/-- a row of one pair -/
theorem rowG {b e : Nat} {f : Nat × Nat} {a c : Int} {cs : List Value} (h : w.heap[b]? = some (.cells cs.toArray e f)) (hc : cs = cG.cells [(a, c)]) : Sees cG w ⟨some ⟨b, 0, none⟩, 1, 1⟩ [(a, c)] :=
  sees_row h [(a, c)] hc rfl
theorem appG {NL : Nat} {hb : List Nat} {w0 w' : World} {S' : Hs} {s x : Sl} {lt new : List (Int × Int)} {bs : List Nat} {F : Sl → World → Prop} (U : Upd hb [] w0 w') (H : Hol N w' h S' B G m) (hs : Sees cG w' s lt) (os : Own NL 2 w' s) (hx : Sees cG w' x new)
    (hNL : ∀ y ∈ hblk h B G m, y < NL) (hw0 : w0.heap.size ≤ NL) (hNL2 : NL ≤ w'.heap.size) (hbs : ∀ y ∈ s.blk, y ∉ bs) (hlen : lt.length + new.length ≤ 1000000)
    (k : ∀ r w'', Upd hb [] w0 w'' → Hol N w'' h S' B G m → Sees cG w'' r (lt ++ new) → Own NL 2 w'' r → (∀ y ∈ r.blk, y ∈ s.blk ∨ w'.heap.size ≤ y) → w'.heap.size ≤ w''.heap.size → F r w'') : Append 29 2 16 s x bs w' F := by
  refine append_own (c := cG) hs os hx hNL2 hbs (by decide) (by omega) fun r w'' hr or u hn => ?_
  have sb := os.blk
  exact k r w'' (U.step u fun y hy => .inl (by have := sb y hy; omega)) (H.upd u fun y hy hm => by have := hNL y hy; have := sb y hm; omega) hr or hn u.size
/-- the piece that is laid into a hole -/
theorem piece_len {l : List Int} {lo hi off : Int} (h1 : off ≤ lo) (h2 : lo ≤ hi) (h3 : hi ≤ off + l.length) : ((l.take (hi - off).toNat).drop (lo - off).toNat).length = (hi - lo).toNat := by
  simp; omega
theorem putB_ok {off e : Int} {l : List Int} (h0 : 0 ≤ off) (he : off + l.length = e) (hl : 0 < l.length) (hlb : Byt l) : ∀ (gs : List (Int × Int)) (b : List Int), (∀ g ∈ gs, 0 ≤ g.1 ∧ g.1 < g.2) → e.toNat ≤ b.length → Byt b → (putB off e l gs b).length = b.length ∧ Byt (putB off e l gs b)
  | [], b, _, _, hb => ⟨rfl, hb⟩
  | g :: r, b, h, h1, hb => by
    have hg := h g (by simp)
    have hr := fun x hx => h x (List.mem_cons_of_mem _ hx)
    unfold putB
    split
    · exact ⟨rfl, hb⟩
    · split
      · exact putB_ok h0 he hl hlb r b hr h1 hb
      · have pl : ((l.take (min g.2 e - off).toNat).drop (max g.1 off - off).toNat).length = (min g.2 e - max g.1 off).toNat := piece_len (by omega) (by omega) (by omega)
        have bl := blit_len (l := b) (i := (max g.1 off).toNat) (d := (l.take (min g.2 e - off).toNat).drop (max g.1 off - off).toNat) (by rw [pl]; omega)
        have := putB_ok h0 he hl hlb r _ hr (by rw [bl]; exact h1) (blit_byt hb (fun x hx => hlb x (List.mem_of_mem_take (List.mem_of_mem_drop hx))))
        rw [bl] at this
        exact this
theorem cutG_len {off e : Int} : ∀ (gs : List (Int × Int)), (cutG off e gs).length ≤ 2 * gs.length
  | [] => by simp [cutG]
  | g :: r => by
    have ih := cutG_len (off := off) (e := e) r
    unfold cutG
    split
    · simp; omega
    · split
      · simp; omega
      · simp only [List.length_append, List.length_cons]
        split <;> split <;> simp <;> omega
theorem finG_last {E : Int} {cg : List (Int × Int)} (hf : S.fin < 0) (hi : cg.length - 1 < cg.length) : finG S E false cg = if cg[cg.length - 1].2 = S.max then (if E ≤ cg[cg.length - 1].1 then cg.dropLast else cg.dropLast ++ [(cg[cg.length - 1].1, E)]) else cg := by
  unfold finG; rw [if_pos ⟨rfl, hf⟩, List.getLast?_eq_getElem?, List.getElem?_eq_getElem hi]
theorem finG_no {E : Int} {more : Bool} {cg : List (Int × Int)} (h : ¬ (more = false ∧ S.fin < 0)) : finG S E more cg = cg := by unfold finG; rw [if_neg h]
theorem finG_nil {E : Int} {more : Bool} : finG S E more [] = [] := by unfold finG; split <;> rfl
theorem set_last {α : Type} {l : List α} {x : α} (h : 0 < l.length) : l.set (l.length - 1) x = l.dropLast ++ [x] := by
  rw [List.set_eq_take_append_cons_drop, if_pos (by omega), List.dropLast_eq_take, List.drop_of_length_le (by omega)]
theorem found_eq {l : List (Int × Int × Bool)} {k : Int × Int × Bool} {b : Bool} (h : Found (seenL l) (keyS k).enc (.struct []) (.struct []) b) : b = decide (k ∈ l) := by
  rcases h with ⟨rfl, p, hp, e, _⟩ | ⟨rfl, h, _⟩
  · exact (decide_eq_true (mem_seen.1 ⟨p, hp, e⟩)).symm
  · refine (decide_eq_false fun hk => ?_).symm
    obtain ⟨p, hp, e⟩ := mem_seen.2 hk
    exact h p hp e
end
end Go.Vc.S11
end

section
namespace Go.Vc
set_option linter.unusedVariables false
set_option linter.unusedSimpArgs false
set_option autoImplicit false
def flatG (l : List (Int × Int)) : List Int := l.flatMap fun g => [g.1, g.2]
theorem flatG_cells : ∀ (l : List (Int × Int)), cI64.cells (flatG l) = cG.cells l
  | [] => rfl
  | g :: r => by
    have ih := flatG_cells r
    simp only [Cod.cells, flatG, List.flatMap_cons] at ih ⊢
    rw [List.flatMap_append, ih]
    rfl
theorem flatG_len : ∀ (l : List (Int × Int)), (flatG l).length = 2 * l.length
  | [] => rfl
  | g :: r => by have := flatG_len r; simp only [flatG, List.flatMap_cons, List.length_append, List.length_cons, List.length_nil] at this ⊢; omega
theorem flatG_set {x : Int} : ∀ (l : List (Int × Int)) (i : Nat) (h : i < l.length), (flatG l).set (2 * i + 1) x = flatG (l.set i (l[i].1, x))
  | g :: r, 0, _ => by simp [flatG]
  | g :: r, i + 1, h => by
    have ih := flatG_set (x := x) r i (by simpa using h)
    simp only [flatG, List.flatMap_cons, List.set_cons_succ, List.getElem_cons_succ] at ih ⊢
    rw [← ih]
    show (g.1 :: g.2 :: _).set (2 * (i + 1) + 1) x = _
    rw [show 2 * (i + 1) + 1 = (2 * i + 1) + 1 + 1 by omega, List.set_cons_succ, List.set_cons_succ]
    rfl
/-- the second number of a pair is written -/
theorem setG2 {N i : Nat} {x : Int} {w : World} {s : Sl} {gs : List (Int × Int)} {bs : List Nat} {F : World → Prop} (hs : Sees cG w s gs) (o : Own N 2 w s) (hi : i < gs.length) (hbs : ∀ b ∈ s.blk, b ∉ bs)
    (k : ∀ w1, Sees cG w1 s (gs.set i (gs[i].1, x)) → Own N 2 w1 s → Upd s.blk [] w w1 → F w1) : Store w ((s.at 2 i).add 1) [.int .i64 x] bs F := by
  have hl := hs.len
  have ole := o.le
  have h1 : Sees cI64 w ⟨s.ptr, 2 * s.len, 2 * s.cap⟩ (flatG gs) := ⟨by simp [flatG_len, hl], by rw [flatG_cells]; exact hs.row⟩
  have o1 : Own N 1 w ⟨s.ptr, 2 * s.len, 2 * s.cap⟩ := ⟨by simp; omega, fun hp => by have := o.nil hp; simp [this], o.blk, fun a ha => ⟨(o.cell a ha).1, fun j hj => (o.cell a ha).2 j (by simp at hj; omega)⟩⟩
  have ea : (s.at 2 i).add 1 = (⟨s.ptr, 2 * s.len, 2 * s.cap⟩ : Sl).at 1 (2 * i + 1) := by
    simp only [Sl.at]
    rw [add_add]
    congr 1
    omega
  rw [ea]
  refine own_set (c := cI64) (x := x) h1 o1 (by decide) (by rw [flatG_len]; omega) rfl hbs fun w1 h2 o2 u => ?_
  rw [flatG_set gs i hi] at h2
  refine k w1 ⟨by simpa using hl, ?_⟩ ⟨o.le, o.nil, o2.blk, fun a ha => ⟨(o.cell a ha).1, fun j hj => (o2.cell a ha).2 j (by show j < 2 * s.cap * 1; omega)⟩⟩ u
  have := h2.row
  rwa [flatG_cells] at this
theorem subG_ptr {s : Sl} {n m : Nat} : (s.sub 2 0 n m).ptr = s.ptr := by
  simp only [Sl.sub]
  split
  · rfl
  · cases s.ptr with
    | none => rfl
    | some a => simp [add_zero]
theorem Own.subG {N n : Nat} {w : World} {s : Sl} (o : Own N 2 w s) (hn : n ≤ s.cap) : Own N 2 w (s.sub 2 0 n s.cap) := by
  have hb : (s.sub 2 0 n s.cap).blk = s.blk := by unfold Sl.blk; rw [subG_ptr]
  refine ⟨by simp [Sl.sub]; omega, fun hp => ?_, fun b hb' => o.blk b (hb ▸ hb'), fun a ha => ?_⟩
  · rw [subG_ptr] at hp
    simp [Sl.sub, o.nil hp]
  · rw [subG_ptr] at ha
    exact ⟨(o.cell a ha).1, fun i hi => (o.cell a ha).2 i (by simpa [Sl.sub] using hi)⟩
end Go.Vc
end

section
open Go Go.Vc Go.Proofs
set_option linter.unusedVariables false
set_option linter.unusedSimpArgs false
set_option autoImplicit false
namespace Go.Vc.S11
section
variable {w : World} {R : SV → World → Prop} {N h m : Nat} {S : Hs} {B G : Sl}
set_option maxRecDepth 20000 in
theorem c12 {off : Int} {data : Sl} {l : List Int} {more : Bool} (H : Hol N w h S B G m) (O : OkS S) (hd : SeesB w data l) (hcap : data.len ≤ data.cap) (hb : Byt l) (hdis : ∀ x ∈ data.blk, x < w.heap.size ∧ x ∉ hblk h B G m)
    (ke : ∀ w1, Upd [] [] w w1 → errS S off l.length more ≠ 0 → R (.tuple [.struct [.int .i64 0, .int .i64 0, .bool false], .int .i64 (errS S off l.length more)]) w1)
    (k : ∀ B' G' w1, errS S off l.length more = 0 → Upd (hblk h B G m) [] w w1 → Hol N w1 h (putS S off l more) B' G' m → (∀ x ∈ hblk h B' G' m, x ∈ hblk h B G m ∨ w.heap.size ≤ x) →
      R (.tuple [.struct [.int .i64 (newN off (off + l.length) S.gaps), .int .i64 (l.length - newN off (off + l.length) S.gaps), .bool (sameS S off l more)], .int .i64 0]) w1) :
    Ret Try.prog 12 [.ptr (some ⟨h, 0, none⟩), .int .i64 off, .slice data, .bool more] w R := by
  refine f12_of _ _ _ _ _ _ ?_
  unfold vc12
  have hdl := hd.len
  intro b0 w1 u1
  have n0 := u1.new (b := b0) (by simp)
  refine c32 (H.old u1) (by have := O.gl; omega) hdl O.mx.2 fun w2 u2 => ⟨_, rfl, kp u2, bre' (fun hne => fun w3 u3 => ke w3 ((u1.then u2).step0 u3 (by simp; omega)) hne) (fun he => ?_)⟩
  obtain ⟨p1, p2, _, _, p3, p4, p5, p6, p7⟩ := errS_ok he
  have v2 := u1.then u2
  have y1 := u1.size; have y2 := u2.size
  have mx := O.mx
  have ew : wr .i64 (off + (data.len : Int)) = off + l.length := by rw [hdl]; exact wr_i64 (by omega) (by omega)
  rw [ew]
  have H2 := H.old v2
  have lt := H.lt
  have obl := O.bl
  have ogl := O.gl
  generalize hE : off + (l.length : Int) = E at *
  intro J hJ
  have main : ∀ B1 w3, Upd (hblk h B G m) [] w2 w3 → Hol N w3 h { S with buf := S.buf ++ List.replicate (E.toNat - S.buf.length) 0 } B1 G m → (∀ x ∈ B1.blk, x ∈ B.blk ∨ w2.heap.size ≤ x) → J w3 := by
    intro B1 w3 V3 H3 hB1
    refine hJ _ ?_
    clear hJ
    intro b1 J2 hJ2
    have lt3 := H3.lt
    have z3 := V3.size
    have b0n : b0 ∉ hblk h B1 G m := fun hx => by
      simp only [hblk, List.mem_cons, List.mem_append] at hx
      rcases hx with e | e | hx | hx
      · have := lt h (by simp [hblk]); omega
      · have := lt m (by simp [hblk]); omega
      · rcases hB1 b0 hx with q | q
        · have := lt b0 (by simp [hblk, q]); omega
        · omega
      · have := lt b0 (by simp [hblk, hx]); omega
    have after : ∀ (s : Sl) (bf : List Int) (NL : Nat) (wL : World), Upd (hblk h B G m) [] w2 wL → Hol N wL h { S with buf := bf } B1 G m → bf = putB off E l S.gaps (S.buf ++ List.replicate (E.toNat - S.buf.length) 0) → Sees cG wL s (cutG off E S.gaps) → Own NL 2 wL s → w3.heap.size ≤ NL → w3.heap.size ≤ b1 → b1 < NL → NL ≤ wL.heap.size → J2 s (newN off E S.gaps) 0 false wL := by
      intro s bf NL wL VL HL hbf hs os q1 q2 q3 q4
      have sB := os.blk
      have zL := VL.size
      have hh := lt3 h (by simp [hblk])
      have hm' := lt3 m (by simp [hblk])
      have bN := H3.base
      have b01 : ∀ y, y < w3.heap.size → y ∈ hblk h B1 G m → y ∉ [b0, b1] := fun y hy hy2 hm => by
        simp only [List.mem_cons, List.not_mem_nil, or_false] at hm
        rcases hm with q | q
        · exact b0n (q ▸ hy2)
        · omega
      have b0lt : b0 < NL := by omega
      have s01 : ∀ y, NL ≤ y → y ∉ [b0, b1] := fun y hy hm => by simp at hm; omega
      refine hJ2 _ _ _ _ _ ?_
      clear hJ2
      dsimp only [deref]
      refine HL.box.set (y := .sl s) 2 (by simp) rfl (b01 h hh.2 (by simp [hblk])) fun w5 hx5 u5 => ?_
      have z5 := u5.size
      have ne1 : ∀ y ∈ s.blk, y ≠ h := fun y hy e => by have := sB y hy; omega
      have H5 : Hol N w5 h { S with buf := bf, gaps := cutG off E S.gaps } B1 s m := ⟨hx5, HL.buf.upd u5 (fun x hx e => by rw [List.mem_singleton] at e; exact HL.a1.1 (e ▸ hx)), HL.bo.upd u5 (fun x hx e => by rw [List.mem_singleton] at e; exact HL.a1.1 (e ▸ hx)), hs.upd u5 (fun x hx e => by rw [List.mem_singleton] at e; exact ne1 x hx e), (os.mono (by omega)).upd u5 (fun x hx e => by rw [List.mem_singleton] at e; exact ne1 x hx e), HL.map.upd u5 (by simpa using fun e => HL.a1.2.2 e.symm), ⟨HL.a1.1, fun hx => ne1 h hx rfl, HL.a1.2.2⟩, ⟨HL.a2.1, fun hx => by have := sB m hx; omega⟩, fun x hx hx2 => by have := sB x hx2; have := (lt3 x (by simp [hblk, hx])).2; omega, ⟨HL.base.1, HL.base.2.1, by have := HL.base.2.2; omega⟩⟩
      have V5 : Upd (hblk h B G m) [] w2 w5 := VL.step u5 (fun x hx => .inr (by rw [List.mem_singleton] at hx; subst hx; simp [hblk]))
      have nb := newN_bound (off := off) (e := E) p2 (by omega) (by omega) S.gaps (fun g hg => ⟨(O.gp g hg).1, (O.gp g hg).2.1⟩)
      have oh := O.he
      intro J3 hJ3
      have fin : ∀ (gs : List (Int × Int)) (G' : Sl) (f : Int) (w6 : World), Upd (hblk h B G m) [] w2 w6 → w5.heap.size ≤ w6.heap.size → Hol N w6 h { S with buf := bf, gaps := gs, fin := f } B1 G' m → (∀ y ∈ G'.blk, NL ≤ y) → gs = finG S E more (cutG off E S.gaps) → f = (if more = false ∧ S.fin < 0 then E else S.fin) → J3 w6 := by
        intro gs G' f w6 V6 z6 H6 hG' hgs hf
        have hq : ∀ y ∈ hblk h B1 G' m, y < w3.heap.size ∧ y ∈ hblk h B1 G m ∨ NL ≤ y := fun y hy => by
          simp only [hblk, List.mem_cons, List.mem_append] at hy
          rcases hy with q | q | q | q
          · exact .inl ⟨by omega, by simp [hblk, q]⟩
          · exact .inl ⟨by omega, by simp [hblk, q]⟩
          · exact .inl ⟨(lt3 y (by simp [hblk, q])).2, by simp [hblk, q]⟩
          · exact .inr (hG' y q)
        have h01 : ∀ y ∈ hblk h B1 G' m, y ∉ [b0, b1] := fun y hy => by
          rcases hq y hy with q | q
          · exact b01 y q.1 q.2
          · exact s01 y q
        have hNew : ∀ x ∈ hblk h B1 G' m, x ∈ hblk h B G m ∨ w.heap.size ≤ x := fun x hx => by
          simp only [hblk, List.mem_cons, List.mem_append] at hx
          rcases hx with q | q | q | q
          · exact .inl (by simp [hblk, q])
          · exact .inl (by simp [hblk, q])
          · rcases hB1 x q with r | r
            · exact .inl (by simp [hblk, r])
            · exact .inr (by omega)
          · exact .inr (by have := hG' x q; omega)
        refine hJ3 _ ?_
        clear hJ3
        refine ⟨S.held, H6.box.int 4 S.held rfl, fun w7 u7 => ?_⟩
        have z7 := u7.size
        rw [wr_i64 (by omega) (by omega), hdl, wr_i64 (by omega) (by omega)]
        have H7 := H6.old u7
        refine H7.box.set (y := .int (S.held + newN off E S.gaps)) 4 (by simp) rfl (h01 h (by simp [hblk])) fun w8 hx8 u8 => ?_
        have z8 := u8.size
        have H8 : Hol N w8 h { S with buf := bf, gaps := gs, fin := f, held := S.held + newN off E S.gaps } B1 G' m := ⟨hx8, H7.buf.upd u8 (fun x hx e => by rw [List.mem_singleton] at e; exact H7.a1.1 (e ▸ hx)), H7.bo.upd u8 (fun x hx e => by rw [List.mem_singleton] at e; exact H7.a1.1 (e ▸ hx)), H7.gaps.upd u8 (fun x hx e => by rw [List.mem_singleton] at e; exact H7.a1.2.1 (e ▸ hx)), H7.go.upd u8 (fun x hx e => by rw [List.mem_singleton] at e; exact H7.a1.2.1 (e ▸ hx)), H7.map.upd u8 (by simpa using fun e => H7.a1.2.2 e.symm), H7.a1, H7.a2, H7.a3, ⟨H7.base.1, H7.base.2.1, by have := H7.base.2.2; omega⟩⟩
        have V8 : Upd (hblk h B G m) [] w w8 := (((v2.wide (m' := hblk h B G m) (by simp)).step V6 (fun x hx => .inr hx)).step u7 (by simp)).step u8 (fun x hx => .inr (by rw [List.mem_singleton] at hx; subst hx; simp [hblk]))
        intro b3 w9 u9
        have n3 := u9.new (b := b3) (by simp)
        have z9 := u9.size
        have h1' : ∀ y ∈ hblk h B1 G' m, y ∉ [b1] := fun y hy hm => h01 y hy (by rw [List.mem_singleton] at hm; simp [hm])
        have H9 := H8.upd u9 h1'
        have V9 : Upd (hblk h B G m) [] w w9 := V8.step u9 (fun x hx => .inl (by rw [List.mem_singleton] at hx; omega))
        have lt9 := H9.lt
        have lt8 := H8.lt
        have b3n : ∀ y ∈ hblk h B1 G' m, y ≠ b3 := fun y hy e => by have := (lt8 y hy).2; omega
        have kr : KeyR (off, (l.length : Int), more) := ⟨by dsimp only; omega, by dsimp only; omega⟩
        have eS : ({ S with buf := bf, gaps := gs, fin := f, held := S.held + newN off E S.gaps, seen := if (off, (l.length : Int), more) ∈ S.seen then S.seen else S.seen ++ [(off, (l.length : Int), more)] } : Hs) = putS S off l more := by
          rw [hbf, hgs, hf, ← hE]; rfl
        have eB : (putS S off l more).buf = bf := by rw [← eS]
        have pok := putB_ok (off := off) (e := E) p2 hE p3 hb S.gaps (S.buf ++ List.replicate (E.toNat - S.buf.length) 0) (fun g hg => ⟨(O.gp g hg).1, (O.gp g hg).2.1⟩) (by simp; omega) (fun x hx => by
          rcases List.mem_append.1 hx with q | q
          · exact O.bb x q
          · rw [List.eq_of_mem_replicate q]; omega)
        rw [← hbf] at pok
        have bfl : E.toNat ≤ bf.length := by rw [pok.1]; simp; omega
        have bfb : Byt bf := pok.2
        have sm : sameS S off l more = (decide ((off, (l.length : Int), more) ∈ S.seen) && decide ((bf.take E.toNat).drop off.toNat = l)) := by unfold sameS; rw [eB, hE]
        have b0h : b0 ∉ hblk h B1 G' m := fun hx => h01 b0 hx (by simp)
        have done : ∀ (bs : List Nat) (bb : Bool) (w10 : World), Upd (hblk h B G m) [] w w10 → Hol N w10 h { S with buf := bf, gaps := gs, fin := f, held := S.held + newN off E S.gaps } B1 G' m → m ∉ bs → bb = sameS S off l more →
            deref (some ⟨h, 0, none⟩) fun a => ∃ r : Option Nat, w10.cell? (a.add 5) = some (.map r) ∧ derefN r fun r => ∀ w2, Upd [] [] w10 w2 → Try.prog.underlying 74 = some (.map 80 81) ∧ r ∉ bs ∧ ∃ ll, MapL w2 r ll ∧ KeysOk Try.prog 80 (SV.struct [.int .i64 off, .int .i64 (l.length : Int), .bool more]).enc ll ∧
              ∀ l' w3, SetAt ll (SV.struct [.int .i64 off, .int .i64 (l.length : Int), .bool more]).enc (.struct []) l' → Upd [r] [] w2 w3 → MapL w3 r l' → ∀ w4, Upd [b0] [] w3 w4 → R (.tuple [.struct [.int .i64 (newN off E S.gaps), .int .i64 (l.length - newN off E S.gaps), .bool bb], .int .i64 0]) w4 := fun bs bb w10 V10 H10 hmb hbb =>
          putEnd (B := B) (G := G) (w0 := w) H10 O.ks kr hmb n0.1 V10 b0h fun w11 V11 H11 => by
            rw [eS] at H11
            rw [hbb]
            exact k B1 G' w11 he V11 H11 hNew
        have mbs : ∀ bs : List Nat, (∀ y ∈ bs, y = b0 ∨ y = b1 ∨ w8.heap.size ≤ y) → m ∉ bs := fun bs hbs hm => by
          have q1 := h01 m (by simp [hblk])
          have q2 := (lt8 m (by simp [hblk])).2
          rcases hbs m hm with q | q | q
          · exact q1 (by simp [q])
          · exact q1 (by simp [q])
          · omega
        have hB9 : SeesB w9 B1 bf := H9.buf
        have hBl9 := hB9.len
        have hBc9 := H9.bo.le
        have hd9 := hd.upd V9 (fun x hx hm => (hdis x hx).2 hm)
        have sub9 : ∀ w', SeesB w' B1 bf → SeesB w' (B1.sub 1 off.toNat E.toNat B1.cap) ((bf.take E.toNat).drop off.toNat) := fun w' h' => h'.subB (by omega) (by omega) (by omega)
        have bsb : Byt ((bf.take E.toNat).drop off.toNat) := fun x hx => bfb x (List.mem_of_mem_take (List.mem_of_mem_drop hx))
        refine ⟨some m, H9.box.mp 5 (some m) rfl, fun w10 u10 => ⟨und74, seenL S.seen, H9.map.upd u10 (by simp), keys_ok (k := (off, (l.length : Int), more)) O.ks kr, seen_shape, fun bv hF b5 => ⟨u10, ?_⟩⟩, fun b4 => ⟨Upd.refl _, fun w10 u10 => ⟨und74, seenL S.seen, H9.map.upd u10 (by simp), keys_ok (k := (off, (l.length : Int), more)) O.ks kr, seen_shape, fun bv hF => ?_⟩⟩⟩
        · have hbv := found_eq (k := (off, (l.length : Int), more)) hF
          have z10 := u10.size
          have H10 := H9.old u10
          have V10 := V9.step u10 (by simp)
          refine brb (fun ht => ⟨B1, H10.box.sl 1 B1 rfl, needSl (by omega) (by omega) (by omega) (by omega) fun w11 u11 => ?_⟩) (fun ht => fun w11 u11 => ?_)
          · have n5 := u11.new (b := b5) (by simp)
            refine c33 (sub9 _ ((hB9.old u10).old u11)) ((hd9.old u10).old u11) bsb hb ⟨_, rfl, kp (Upd.refl _), fun w12 u12 => ?_⟩
            exact done [b0, b1, b3, b5] _ w12 ((V10.step u11 (by simp)).step u12 (fun x hx => .inl (by rw [List.mem_singleton] at hx; omega))) ((H10.old u11).upd u12 h1') (mbs _ (by simp; omega)) (by rw [sm, ← hbv, ht, Bool.true_and])
          · have n5 := u11.new (b := b5) (by simp)
            exact done [b0, b1, b3, b5] _ w11 (V10.step u11 (fun x hx => .inl (by rw [List.mem_singleton] at hx; omega))) (H10.upd u11 h1') (mbs _ (by simp; omega)) (by rw [sm, ← hbv, ht, Bool.false_and])
        · have hbv := found_eq (k := (off, (l.length : Int), more)) hF
          have n4 := u10.new (b := b4) (by simp)
          have z10 := u10.size
          have H10 := H9.old u10
          have V10 := V9.step u10 (by simp)
          have b4n : ∀ y ∈ hblk h B1 G' m, y ≠ b4 := fun y hy e => by have := (lt9 y hy).2; omega
          refine brb (fun ht => fun w11 u11 => ?_) (fun ht => fun w11 u11 => ?_)
          · have b4' : ∀ y ∈ hblk h B1 G' m, y ∉ [b4] := fun y hy hm => b4n y hy (by rw [List.mem_singleton] at hm; exact hm)
            have H11 := H10.upd u11 b4'
            have b4d : ∀ x ∈ data.blk, x ∉ [b4] := fun x hx hm => by have := (hdis x hx).1; rw [List.mem_singleton] at hm; omega
            refine ⟨B1, H11.box.sl 1 B1 rfl, needSl (by omega) (by omega) (by omega) (by omega) ?_⟩
            refine c33 (sub9 _ H11.buf) ((hd9.old u10).upd u11 b4d) bsb hb ⟨_, rfl, kp (Upd.refl _), fun w12 u12 => ?_⟩
            exact done [b0, b1, b3, b4] _ w12 ((V10.step u11 (fun x hx => .inl (by rw [List.mem_singleton] at hx; omega))).step u12 (fun x hx => .inl (by rw [List.mem_singleton] at hx; omega))) (H11.upd u12 h1') (mbs _ (by simp; omega)) (by rw [sm, ← hbv, ht, Bool.true_and])
          · have b14 : ∀ y ∈ hblk h B1 G' m, y ∉ [b1, b4] := fun y hy hm => by
              simp only [List.mem_cons, List.not_mem_nil, or_false] at hm
              rcases hm with q | q
              · exact h1' y hy (by simp [q])
              · exact b4n y hy q
            exact done [b0, b1, b3, b4] _ w11 (V10.step u11 (fun x hx => .inl (by simp only [List.mem_cons, List.not_mem_nil, or_false] at hx; omega))) (H10.upd u11 b14) (mbs _ (by simp; omega)) (by rw [sm, ← hbv, ht, Bool.false_and])
      have hsl : s.len = (cutG off E S.gaps).length := hs.len
      have hcl := cutG_len (off := off) (e := E) S.gaps
      have sNL : ∀ y ∈ s.blk, NL ≤ y := fun y hy => (sB y hy).1
      generalize cutG off E S.gaps = cg at *
      have stay : ¬ (more = false ∧ S.fin < 0) → J3 w5 := fun hno => fin cg s S.fin w5 V5 (Nat.le_refl _) H5 sNL (finG_no hno).symm (by rw [if_neg hno])
      refine brn (fun hm => ⟨S.fin, H5.box.int 3 S.fin rfl, brd (fun hf => ?_) (fun hf => ?_)⟩) (fun hm => ?_)
      · subst hm
        (try dsimp only [deref])
        refine H5.box.set (y := .int E) 3 (by simp) rfl (b01 h hh.2 (by simp [hblk])) fun w6 hx6 u6 => ?_
        have z6 := u6.size
        have nh : ∀ x ∈ B1.blk, x ∉ [h] := fun x hx e => by rw [List.mem_singleton] at e; exact H5.a1.1 (e ▸ hx)
        have nhs : ∀ x ∈ s.blk, x ∉ [h] := fun x hx e => by rw [List.mem_singleton] at e; exact ne1 x hx e
        have nhm : m ∉ [h] := by simpa using fun e => H5.a1.2.2 e.symm
        have H6 : Hol N w6 h { S with buf := bf, gaps := cg, fin := E } B1 s m := ⟨hx6, H5.buf.upd u6 nh, H5.bo.upd u6 nh, H5.gaps.upd u6 nhs, H5.go.upd u6 nhs, H5.map.upd u6 nhm, H5.a1, H5.a2, H5.a3, ⟨H5.base.1, H5.base.2.1, by have := H5.base.2.2; omega⟩⟩
        have V6 := V5.step u6 (fun x hx => .inr (by rw [List.mem_singleton] at hx; subst hx; simp [hblk]))
        have hG6 : Sees cG w6 s cg := H6.gaps
        refine ⟨s, H6.box.sl 2 s rfl, brd (fun hpos => ?_) (fun hz => ?_)⟩
        · have hi : cg.length - 1 < cg.length := by omega
          have ew3 : wr .i64 ((s.len : Int) - 1) = ((cg.length - 1 : Nat) : Int) := by rw [wr_i64 (by omega) (by omega)]; omega
          rw [ew3, Int.toNat_natCast]
          have hfl := finG_last (S := S) (E := E) hf hi
          have e1 := hG6.elem hi 1 (by simp [cG])
          refine ⟨s, H6.box.sl 2 s rfl, needIx (by omega) (by omega) (hG6.isSome (by decide) (by omega)) ⟨cg[cg.length - 1].2, e1, S.max, (by have := H6.box.int 0 S.max rfl; rwa [add_zero] at this), bre (fun heq => ?_) (fun hne => fun w7 u7 => ?_)⟩⟩
          · rw [if_pos heq] at hfl
            refine ⟨s, H6.box.sl 2 s rfl, needIx (by omega) (by omega) (hG6.isSome (by decide) (by omega)) fun w7 u7 => ?_⟩
            have z7 := u7.size
            refine setG2 (hG6.old u7) (H6.go.old u7) hi (fun y hy => s01 y (sNL y hy)) fun w8 hg8 og8 u8 => ?_
            have z8 := u8.size
            have H7 := H6.old u7
            have H8 : Hol N w8 h { S with buf := bf, gaps := cg.set (cg.length - 1) (cg[cg.length - 1].1, E), fin := E } B1 s m := ⟨H7.box.upd u8 H7.a1.2.1, H7.buf.upd u8 (fun x hx hm => H7.a3 x hx hm), H7.bo.upd u8 (fun x hx hm => H7.a3 x hx hm), hg8, og8, H7.map.upd u8 H7.a2.2, H7.a1, H7.a2, H7.a3, ⟨H7.base.1, H7.base.2.1, by have := H7.base.2.2; omega⟩⟩
            have V8 := (V6.step u7 (by simp)).step u8 (fun x hx => .inl (by have := sNL x hx; omega))
            have hG8 : Sees cG w8 s (cg.set (cg.length - 1) (cg[cg.length - 1].1, E)) := H8.gaps
            have hi8 : cg.length - 1 < (cg.set (cg.length - 1) (cg[cg.length - 1].1, E)).length := by simp; omega
            have e0 : w8.cell? ((s.at 2 (cg.length - 1)).add 0) = some (.int .i64 cg[cg.length - 1].1) := by
              have := hG8.elem hi8 0 (by simp [cG])
              simpa [cG] using this
            refine ⟨s, H8.box.sl 2 s rfl, needIx (by omega) (by omega) (hG6.isSome (by decide) (by omega)) ⟨cg[cg.length - 1].1, e0, brd (fun hge => ?_) (fun hlt => ?_)⟩⟩
            · rw [if_pos hge] at hfl
              have hcs := H8.go.le
              refine ⟨s, H8.box.sl 2 s rfl, needIxLe (by omega) (by omega) ?_⟩
              (try dsimp only [deref])
              refine H8.box.set (y := .sl (s.sub 2 0 (cg.length - 1) s.cap)) 2 (by simp) rfl (b01 h hh.2 (by simp [hblk])) fun w9 hx9 u9 => ?_
              have z9 := u9.size
              have hbk : (s.sub 2 0 (cg.length - 1) s.cap).blk = s.blk := by unfold Sl.blk; rw [subG_ptr]
              have hg9 : Sees cG w8 (s.sub 2 0 (cg.length - 1) s.cap) cg.dropLast := by
                have := hG8.sub (lo := 0) (hi := cg.length - 1) (mx := s.cap) (by omega) (by omega) (by omega)
                rw [List.drop_zero, set_last (by omega), List.take_left' (by simp)] at this
                exact this
              have og9 := H8.go.subG (n := cg.length - 1) (by omega)
              (repeat refine And.intro rfl ?_)
              refine fin cg.dropLast (s.sub 2 0 (cg.length - 1) s.cap) E w9 (V8.step u9 (fun x hx => .inr (by rw [List.mem_singleton] at hx; subst hx; simp [hblk]))) (by omega) ⟨hx9, H8.buf.upd u9 nh, H8.bo.upd u9 nh, hg9.upd u9 (by rw [hbk]; exact nhs), og9.upd u9 (by rw [hbk]; exact nhs), H8.map.upd u9 nhm, ⟨H8.a1.1, by rw [hbk]; exact H8.a1.2.1, H8.a1.2.2⟩, ⟨H8.a2.1, by rw [hbk]; exact H8.a2.2⟩, by rw [hbk]; exact H8.a3, ⟨H8.base.1, H8.base.2.1, by have := H8.base.2.2; omega⟩⟩ (by rw [hbk]; exact sNL) hfl.symm (by rw [if_pos ⟨rfl, hf⟩])
            · rw [if_neg (by omega)] at hfl
              (repeat refine And.intro rfl ?_)
              refine fin _ s E w8 V8 (by omega) H8 sNL ?_ (by rw [if_pos ⟨rfl, hf⟩])
              rw [hfl, set_last (by omega)]
          · rw [if_neg hne] at hfl
            (repeat refine And.intro rfl ?_)
            exact fin cg s E w7 (V6.step u7 (by simp)) (by have := u7.size; omega) (H6.old u7) sNL hfl.symm (by rw [if_pos ⟨rfl, hf⟩])
        · have hn : cg = [] := List.eq_nil_of_length_eq_zero (by omega)
          intro w7 u7
          (repeat refine And.intro rfl ?_)
          exact fin cg s E w7 (V6.step u7 (by simp)) (by have := u7.size; omega) (H6.old u7) sNL (by rw [hn, finG_nil]) (by rw [if_pos ⟨rfl, hf⟩])
      · (repeat refine And.intro rfl ?_)
        exact stay (by omega)
      · (repeat refine And.intro rfl ?_)
        exact stay (by simp [hm])
    clear hJ2
    have hgl : G.len = S.gaps.length := H3.gaps.len
    refine ⟨G, H3.box.sl 2 G rfl, ?_⟩
    refine ⟨fun s i n1 n2 b2 w' => n2 = 0 ∧ b2 = false ∧ ∃ (NL t : Nat) (ls : List (Int × Int)) (bf : List Int), i = t ∧ t ≤ S.gaps.length ∧ Upd (hblk h B G m) [] w2 w' ∧ Hol N w' h { S with buf := bf } B1 G m ∧ Sees cG w' s ls ∧ Own NL 2 w' s ∧ ls.length ≤ 2 * t ∧ ls ++ cutG off E (S.gaps.drop t) = cutG off E S.gaps ∧ n1 + newN off E (S.gaps.drop t) = newN off E S.gaps ∧ (0 ≤ n1 ∧ n1 ≤ 65535 * t) ∧ putB off E l (S.gaps.drop t) bf = putB off E l S.gaps (S.buf ++ List.replicate (E.toNat - S.buf.length) 0) ∧ bf.length = (S.buf ++ List.replicate (E.toNat - S.buf.length) 0).length ∧ w3.heap.size ≤ NL ∧ w3.heap.size ≤ b1 ∧ b1 < NL ∧ NL ≤ w'.heap.size,
      fun s i n1 n2 b2 w' => (S.gaps.length - i).toNat, fun w4 u4 => ?_, ?_⟩
    · have n1 := u4.new (b := b1) (by simp)
      exact ⟨rfl, rfl, w4.heap.size, 0, [], _, rfl, by omega, V3.step u4 (by simp), H3.old u4, Sees.nil _ _ _ _, Own.none _ _ _, by simp, by simp, by simp, by omega, by simp, rfl, by omega, n1.1, n1.2, Nat.le_refl _⟩
    rintro s i n1 n2 b2 w4 ⟨rfl, rfl, NL, t, ls, bf, rfl, ht, V4, H4, hs, os, hll, e1, e2, en, e3, ebl, q1, q2, q3, q4⟩
    have hNL : ∀ y ∈ hblk h B1 G m, y < NL := fun y hy => by have := (lt3 y hy).2; omega
    have hw0 : w2.heap.size ≤ NL := by omega
    have sB := os.blk
    refine brd (fun hlt => ?_) (fun hge => ?_)
    · have ht2 : t < S.gaps.length := by omega
      have hg := O.gp _ (List.getElem_mem ht2)
      have hdr : S.gaps.drop t = S.gaps[t] :: S.gaps.drop (t + 1) := List.drop_eq_getElem_cons ht2
      rw [hdr] at e1 e2 e3
      have hG4 : Sees cG w4 G S.gaps := H4.gaps
      have g0 := hG4.elem ht2 0 (by simp [cG])
      have g1 := hG4.elem ht2 1 (by simp [cG])
      refine needIx (by omega) (by omega) (hG4.isSome (by decide) (by omega)) ⟨fun i => if i = 0 then S.gaps[t].1 else S.gaps[t].2, fun i hi => ?_, fun b3 => ?_⟩
      · rw [Nat.zero_add, Int.toNat_natCast]
        match i, hi with
        | 0, _ => exact g0
        | 1, _ => exact g1
      simp only [if_true, Nat.one_ne_zero, if_false]
      have sbs : ∀ y ∈ s.blk, ∀ w5, Upd [] [b3] w4 w5 → y ∉ [b0, b1, b3] := fun y hy w5 u5 hm => by
        have := sB y hy
        have n3 := u5.new (b := b3) (by simp)
        simp at hm; omega
      refine brd (fun hc1 => ?_) (fun hc1 => ?_)
      · -- the rest stays
        refine ⟨G, H4.box.sl 2 G rfl, needIxLe (by omega) (by omega) fun w5 u5 => ?_⟩
        have hx := (hG4.old u5).sub (lo := t) (hi := G.len) (mx := G.cap) (by omega) (by omega) (by have := H4.go.le; omega)
        rw [Int.toNat_natCast]
        rw [List.take_of_length_le (by omega)] at hx
        have z5 := u5.size
        refine appG (V4.step u5 (by simp)) (H4.old u5) (hs.old u5) (os.old u5) hx hNL hw0 (by omega) (fun y hy => sbs y hy _ u5) (by simp; omega) fun r w6 V6 H6 hr6 or6 _ z6 => ?_
        (repeat refine And.intro trivial ?_)
        have c1 : cutG off E (S.gaps[t] :: S.gaps.drop (t + 1)) = S.gaps[t] :: S.gaps.drop (t + 1) := by simp only [cutG]; rw [if_pos (by omega)]
        have c2 : newN off E (S.gaps[t] :: S.gaps.drop (t + 1)) = 0 := by simp only [newN]; rw [if_pos (by omega)]
        have c3 : putB off E l (S.gaps[t] :: S.gaps.drop (t + 1)) bf = bf := by simp only [putB]; rw [if_pos (by omega)]
        rw [c1] at e1
        rw [c2, Int.add_zero] at e2
        rw [c3] at e3
        rw [hdr, e1] at hr6
        rw [e2]
        exact after r bf NL w6 V6 H6 e3 hr6 or6 q1 q2 q3 (by omega)
      · refine brd (fun hc2 => ?_) (fun hc2 => ?_)
        · intro w5 u5 b4 w6 u6 hr6
          have z5 := u5.size; have z6 := u6.size
          have hx : Sees cG w6 ⟨some ⟨b4, 0, none⟩, 1, 1⟩ [(S.gaps[t].1, S.gaps[t].2)] := rowG hr6 rfl
          refine appG ((V4.step u5 (by simp)).step u6 (by simp)) ((H4.old u5).old u6) ((hs.old u5).old u6) ((os.old u5).old u6) hx hNL hw0 (by omega) (fun y hy => sbs y hy _ u5) (by simp; omega) fun r w7 V7 H7 hr7 or7 _ z7 => ?_
          (repeat refine And.intro trivial ?_)
          have c1 : cutG off E (S.gaps[t] :: S.gaps.drop (t + 1)) = S.gaps[t] :: cutG off E (S.gaps.drop (t + 1)) := by simp only [cutG]; rw [if_neg (by omega), if_pos hc2]
          have c2 : newN off E (S.gaps[t] :: S.gaps.drop (t + 1)) = newN off E (S.gaps.drop (t + 1)) := by simp only [newN]; rw [if_neg (by omega), if_pos hc2]
          have c3 : putB off E l (S.gaps[t] :: S.gaps.drop (t + 1)) bf = putB off E l (S.gaps.drop (t + 1)) bf := by simp only [putB]; rw [if_neg (by omega), if_pos hc2]
          rw [c1] at e1
          rw [c2] at e2
          rw [c3] at e3
          refine ⟨⟨trivial, trivial, NL, t + 1, ls ++ [S.gaps[t]], bf, wr_succ (by omega), by omega, V7, H7, hr7, or7, by simp; omega, by rw [List.append_assoc]; exact e1, e2, by omega, e3, ebl, q1, q2, q3, by omega⟩, by rw [wr_succ (q := t) (by omega)]; (try dsimp only); omega⟩
        · intro w5 u5
          simp only [imin_min, imax_max]
          have z5 := u5.size
          have n3 := u5.new (b := b3) (by simp)
          generalize hlo : max S.gaps[t].1 off = lo at *
          generalize hhi : min S.gaps[t].2 E = hi at *
          have r1 : off ≤ lo ∧ 0 ≤ lo ∧ lo < hi ∧ hi ≤ E ∧ E ≤ 65535 ∧ S.gaps[t].1 ≤ lo ∧ hi ≤ S.gaps[t].2 := by omega
          have ebl2 : E.toNat ≤ bf.length := by rw [ebl]; simp; omega
          have hB4 : SeesB w4 B1 bf := H4.buf
          have hBl4 := hB4.len
          have hBc4 := H4.bo.le
          have w1' : wr .i64 (hi - off) = hi - off := wr_i64 (by omega) (by omega)
          have w2' : wr .i64 (lo - off) = lo - off := wr_i64 (by omega) (by omega)
          rw [w1', w2']
          have hmin : ((Nat.min (data.sub 1 (lo - off).toNat (hi - off).toNat data.cap).len (B1.sub 1 lo.toNat hi.toNat B1.cap).len : Nat) : Int) = hi - lo := by
            simp only [Sl.sub]
            have : Nat.min ((hi - off).toNat - (lo - off).toNat) (hi.toNat - lo.toNat) = (hi - lo).toNat := by
              rw [show (hi - off).toNat - (lo - off).toNat = (hi - lo).toNat by omega, show hi.toNat - lo.toNat = (hi - lo).toNat by omega]; exact Nat.min_self _
            rw [this]; omega
          have hwr : wr .i64 (n1 + ((Nat.min (data.sub 1 (lo - off).toNat (hi - off).toNat data.cap).len (B1.sub 1 lo.toNat hi.toNat B1.cap).len : Nat) : Int)) = n1 + (hi - lo) := by
            rw [hmin]; exact wr_i64 (by omega) (by omega)
          refine ⟨[h], fun x hx => by rw [List.mem_singleton] at hx; subst hx; have := H4.box.lt; simp; omega, by simp, B1, (H4.old u5).box.sl 1 B1 rfl, needSl (by omega) (by omega) (by omega) (by omega) (needSl (by omega) (by omega) (by omega) (by omega) fun w6 u6 => ?_)⟩
          have z6 := u6.size
          have H6 := (H4.old u5).old u6
          have hd6 := (((hd.old v2).upd V4 (fun x hx hm => (hdis x hx).2 hm)).old u5).old u6
          have hx6 := hd6.subB (lo := (lo - off).toNat) (hi := (hi - off).toNat) (mx := data.cap) (by omega) (by omega) (by omega)
          have pl : ((l.take (hi - off).toNat).drop (lo - off).toNat).length = (hi - lo).toNat := piece_len (by omega) (by omega) (by omega)
          have B1b : ∀ y ∈ B1.blk, y ∉ [b0, b1, b3] := fun y hy hm => by
            have := (lt3 y (by simp [hblk, hy])).2
            simp only [List.mem_cons, List.not_mem_nil, or_false] at hm
            rcases hm with q | q | q
            · exact b0n (q ▸ (by simp [hblk, hy]))
            · omega
            · omega
          refine copy_win (l := bf) (m := (l.take (hi - off).toNat).drop (lo - off).toNat) H6.buf H6.bo hx6 (by rw [pl]; omega) (by omega) (by omega) (by rw [pl]; omega) B1b fun w7 hB7 oB7 u7 => ⟨fun x hx => ?_, ?_⟩
          · rw [List.mem_singleton] at hx
            subst hx
            have := H4.box.lt
            rw [u7.keep x (by omega) H6.a1.1, u6.keep x (by omega) (by simp)]
          have z7 := u7.size
          have H7 : Hol N w7 h { S with buf := blit bf lo.toNat ((l.take (hi - off).toNat).drop (lo - off).toNat) } B1 G m := ⟨H6.box.upd u7 H6.a1.1, hB7, oB7, H6.gaps.upd u7 (fun x hx hm => H6.a3 x hm hx), H6.go.upd u7 (fun x hx hm => H6.a3 x hm hx), H6.map.upd u7 H6.a2.1, H6.a1, H6.a2, H6.a3, ⟨H6.base.1, H6.base.2.1, by have := H6.base.2.2; omega⟩⟩
          have V7 : Upd (hblk h B G m) [] w2 w7 := ((V4.step u5 (by simp)).step u6 (by simp)).step u7 (fun x hx => by
            rcases hB1 x hx with q | q
            · exact .inr (by simp [hblk, q])
            · exact .inl q)
          have sB1 : ∀ y ∈ s.blk, y ∉ B1.blk := fun y hy hm => by have := sB y hy; have := hNL y (by simp [hblk, hm]); omega
          have hs7 := ((hs.old u5).old u6).upd u7 sB1
          have os7 := ((os.old u5).old u6).upd u7 sB1
          have c1 : cutG off E (S.gaps[t] :: S.gaps.drop (t + 1)) = (if S.gaps[t].1 < lo then [(S.gaps[t].1, lo)] else []) ++ (if hi < S.gaps[t].2 then [(hi, S.gaps[t].2)] else []) ++ cutG off E (S.gaps.drop (t + 1)) := by
            simp only [cutG]; rw [if_neg (by omega), if_neg (by omega), hlo, hhi]
          have c2 : newN off E (S.gaps[t] :: S.gaps.drop (t + 1)) = (hi - lo) + newN off E (S.gaps.drop (t + 1)) := by
            simp only [newN]; rw [if_neg (by omega), if_neg (by omega), hlo, hhi]
          have c3 : putB off E l (S.gaps[t] :: S.gaps.drop (t + 1)) bf = putB off E l (S.gaps.drop (t + 1)) (blit bf lo.toNat ((l.take (hi - off).toNat).drop (lo - off).toNat)) := by
            simp only [putB]; rw [if_neg (by omega), if_neg (by omega), hlo, hhi]
          rw [c1] at e1
          rw [c2] at e2
          rw [c3] at e3
          have ebl3 : (blit bf lo.toNat ((l.take (hi - off).toNat).drop (lo - off).toNat)).length = (S.buf ++ List.replicate (E.toNat - S.buf.length) 0).length := by rw [blit_len (by rw [pl]; omega), ebl]
          intro J3 hJ3
          rw [hwr] at hJ3
          have step2 : ∀ (s2 : Sl) (w8 : World), Upd (hblk h B G m) [] w2 w8 → Hol N w8 h { S with buf := blit bf lo.toNat ((l.take (hi - off).toNat).drop (lo - off).toNat) } B1 G m → Sees cG w8 s2 (ls ++ if S.gaps[t].1 < lo then [(S.gaps[t].1, lo)] else []) → Own NL 2 w8 s2 → (∀ y ∈ s2.blk, y ∉ [b0, b1, b3]) → w7.heap.size ≤ w8.heap.size → J3 s2 w8 := by
            intro s2 w8 V8 H8 hs8 os8 sbs8 z8
            refine hJ3 _ _ ?_
            refine brd (fun hh => fun b4 w9 u9 hr9 => ?_) (fun hh => ?_)
            · have z9 := u9.size
              have hx9 : Sees cG w9 ⟨some ⟨b4, 0, none⟩, 1, 1⟩ [(hi, S.gaps[t].2)] := rowG hr9 rfl
              refine appG (V8.step u9 (by simp)) (H8.old u9) (hs8.old u9) (os8.old u9) hx9 hNL hw0 (by omega) sbs8 (by simp; split <;> simp <;> omega) fun r w10 V10 H10 hr10 or10 _ z10 => ?_
              (repeat refine And.intro trivial ?_)
              rw [if_pos hh] at e1
              refine ⟨⟨trivial, trivial, NL, t + 1, _, _, wr_succ (by omega), by omega, V10, H10, hr10, or10, by simp; split <;> simp <;> omega, by simpa [List.append_assoc] using e1, by omega, by omega, e3, ebl3, q1, q2, q3, by omega⟩, by rw [wr_succ (q := t) (by omega)]; (try dsimp only); omega⟩
            · (repeat refine And.intro trivial ?_)
              rw [if_neg hh, List.append_nil] at e1
              refine ⟨⟨trivial, trivial, NL, t + 1, _, _, wr_succ (by omega), by omega, V8, H8, hs8, os8, by simp; split <;> simp <;> omega, by rw [List.append_assoc]; exact e1, by omega, by omega, e3, ebl3, q1, q2, q3, by omega⟩, by rw [wr_succ (q := t) (by omega)]; (try dsimp only); omega⟩
          clear hJ3
          have b1n : ∀ y ∈ hblk h B1 G m, y ∉ [b1] := fun y hy hm => by have := (lt3 y hy).2; rw [List.mem_singleton] at hm; omega
          refine brd (fun hh => fun b4 w8 u8 hr8 => ?_) (fun hh => fun w8 u8 => ?_)
          · have z8 := u8.size
            have hx8 : Sees cG w8 ⟨some ⟨b4, 0, none⟩, 1, 1⟩ [(S.gaps[t].1, lo)] := rowG hr8 rfl
            refine appG (V7.step u8 (fun x hx => by rw [List.mem_singleton] at hx; exact .inl (by omega))) (H7.upd u8 b1n) (hs7.upd u8 (fun y hy hm => by have := sB y hy; rw [List.mem_singleton] at hm; omega)) (os7.upd u8 (fun y hy hm => by have := sB y hy; rw [List.mem_singleton] at hm; omega)) hx8 hNL hw0 (by omega) (fun y hy => sbs y hy _ u5) (by simp; omega) fun r w9 V9 H9 hr9 or9 nr z9 => ?_
            (repeat refine And.intro trivial ?_)
            refine step2 r w9 V9 H9 (by rw [if_pos hh]; exact hr9) or9 (fun y hy hm => ?_) (by omega)
            rcases nr y hy with q | q
            · exact sbs y q _ u5 hm
            · simp at hm; omega
          · have z8 := u8.size
            (repeat refine And.intro trivial ?_)
            exact step2 s w8 (V7.step u8 (fun x hx => by rw [List.mem_singleton] at hx; exact .inl (by omega))) (H7.upd u8 b1n) (by rw [if_neg hh, List.append_nil]; exact hs7.upd u8 (fun y hy hm => by have := sB y hy; rw [List.mem_singleton] at hm; omega)) (os7.upd u8 (fun y hy hm => by have := sB y hy; rw [List.mem_singleton] at hm; omega)) (fun y hy => sbs y hy _ u5) (by omega)
    · have htl : t = S.gaps.length := by omega
      subst htl
      rw [List.drop_length] at e1 e2 e3
      simp only [cutG, newN, putB, List.append_nil, Int.add_zero] at e1 e2 e3
      rw [e2]
      (repeat refine And.intro rfl ?_)
      exact after s bf NL w4 V4 H4 e3 (e1 ▸ hs) os q1 q2 q3 q4
  clear hJ
  have hBl := H2.buf.len
  have b0B : ∀ x ∈ hblk h B G m, x ≠ b0 := fun x hx => by have := lt x hx; omega
  refine ⟨B, H2.box.sl 1 B rfl, brd (fun hlt => ⟨B, H2.box.sl 1 B rfl, B, H2.box.sl 1 B rfl, fun w3 u3 => ?_⟩) (fun hge => ?_)⟩
  · have ew2 : wr .i64 (E - (B.len : Int)) = ((E.toNat - S.buf.length : Nat) : Int) := by rw [wr_i64 (by omega) (by omega)]; omega
    rw [ew2, Int.toNat_natCast, zeros_cells]
    refine need (by simp; omega) ?_
    have H3 := H2.old u3
    have y3 := u3.size
    refine appendN_own (c := cU8) (N := N) H3.buf H3.bo (by have := H3.base.2.2; omega) (by simp) (fun x hx => by have := b0B x (by simp [hblk, hx]); simpa using this) (by decide) (by simp; omega) fun B1 w4 hB4 oB4 u4 hn4 => ?_
    have y4 := u4.size
    dsimp only [deref]
    refine (H3.box.upd u4 H3.a1.1).set (y := .sl B1) 1 (by simp) rfl (by have := b0B h (by simp [hblk]); simpa using this) fun w5 hx5 u5 => ?_
    have hh := lt h (by simp [hblk]); have hm' := lt m (by simp [hblk])
    have nB1 : ∀ x ∈ B1.blk, x ∈ B.blk ∨ w2.heap.size ≤ x := fun x hx => by
      rcases hn4 x hx with q | q
      · exact .inl q
      · exact .inr (by omega)
    have hB1h : h ∉ B1.blk := fun hx => by
      rcases nB1 h hx with q | q
      · exact H3.a1.1 q
      · omega
    have a1 := H3.a1
    have V5 : Upd (hblk h B G m) [] w2 w5 := ((u3.wide (m' := hblk h B G m) (by simp)).step u4 (fun x hx => .inr (by simp [hblk, hx]))).step u5 (fun x hx => .inr (by rw [List.mem_singleton] at hx; subst hx; simp [hblk]))
    have y5 := u5.size
    (repeat refine And.intro rfl ?_)
    refine main B1 w5 V5 ⟨hx5, hB4.upd u5 (fun x hx e => by rw [List.mem_singleton] at e; exact hB1h (e ▸ hx)), oB4.upd u5 (fun x hx e => by rw [List.mem_singleton] at e; exact hB1h (e ▸ hx)),
      (H3.gaps.upd u4 (fun x hx hm => H3.a3 x hm hx)).upd u5 (fun x hx e => by rw [List.mem_singleton] at e; exact a1.2.1 (e ▸ hx)), (H3.go.upd u4 (fun x hx hm => H3.a3 x hm hx)).upd u5 (fun x hx e => by rw [List.mem_singleton] at e; exact a1.2.1 (e ▸ hx)),
      (H3.map.upd u4 H3.a2.1).upd u5 (by simpa using fun e => a1.2.2 e.symm), ⟨hB1h, a1.2.1, a1.2.2⟩, ⟨fun hx => ?_, H3.a2.2⟩, fun x hx hG => ?_, ⟨H3.base.1, H3.base.2.1, by have := H3.base.2.2; omega⟩⟩ nB1
    · rcases nB1 m hx with q | q
      · exact H3.a2.1 q
      · omega
    · rcases nB1 x hx with q | q
      · exact H3.a3 x q hG
      · have := lt x (by simp [hblk, hG]); omega
  · (repeat refine And.intro rfl ?_)
    refine main B w2 ((Upd.refl w2).wide (by simp)) ?_ (fun x hx => .inl hx)
    have e0 : E.toNat - S.buf.length = 0 := by omega
    rw [e0, List.replicate_zero, List.append_nil]
    exact H2
end
end Go.Vc.S11
end

section
namespace Go.Vc
set_option linter.unusedVariables false
set_option linter.unusedSimpArgs false
set_option autoImplicit false
/-- holes that rise, none empty, none touching another, up to top -/
def Rise (top : Int) : Int → List (Int × Int) → Prop
  | _, [] => True
  | b, g :: r => b < g.1 ∧ g.1 < g.2 ∧ g.2 ≤ top ∧ Rise top g.2 r
def lens : List (Int × Int) → Int
  | [] => 0
  | g :: r => (g.2 - g.1) + lens r
theorem Rise.lower {top : Int} : ∀ {l : List (Int × Int)} {b b' : Int}, Rise top b l → b' ≤ b → Rise top b' l
  | [], _, _, _, _ => trivial
  | g :: r, b, b', h, hb => ⟨by have := h.1; omega, h.2.1, h.2.2.1, h.2.2.2⟩
theorem Rise.mem {top : Int} : ∀ {l : List (Int × Int)} {b : Int}, Rise top b l → ∀ g ∈ l, b < g.1 ∧ g.1 < g.2 ∧ g.2 ≤ top
  | g :: r, b, h, x, hx => by
    rcases List.mem_cons.1 hx with rfl | hx
    · exact ⟨h.1, h.2.1, h.2.2.1⟩
    · have := Rise.mem h.2.2.2 x hx
      exact ⟨by have := h.1; have := h.2.1; omega, this.2⟩
theorem Rise.cut {top off e : Int} (hoe : off < e) : ∀ {l : List (Int × Int)} {b : Int}, Rise top b l → Rise top b (cutG off e l)
  | [], _, _ => trivial
  | g :: r, b, ⟨h1, h2, h3, h4⟩ => by
    have ih := Rise.cut hoe h4
    unfold cutG
    split
    · exact ⟨h1, h2, h3, h4⟩
    · split
      · exact ⟨h1, h2, h3, ih⟩
      · rename_i q1 q2
        by_cases a1 : g.1 < max g.1 off
        · rw [if_pos a1]
          by_cases a2 : min g.2 e < g.2
          · rw [if_pos a2]
            exact ⟨h1, a1, by dsimp only; omega, by dsimp only; omega, a2, h3, ih⟩
          · rw [if_neg a2]
            exact ⟨h1, a1, by dsimp only; omega, ih.lower (by dsimp only; omega)⟩
        · rw [if_neg a1]
          by_cases a2 : min g.2 e < g.2
          · rw [if_pos a2]
            exact ⟨by dsimp only; omega, a2, h3, ih⟩
          · rw [if_neg a2]
            exact ih.lower (by omega)
theorem lens_app : ∀ (a b : List (Int × Int)), lens (a ++ b) = lens a + lens b
  | [], b => by simp [lens]
  | g :: r, b => by simp only [List.cons_append, lens, lens_app r b]; omega
theorem lens_cut {top off e : Int} (hoe : off < e) : ∀ {l : List (Int × Int)} {b : Int}, Rise top b l → lens (cutG off e l) + newN off e l = lens l
  | [], _, _ => rfl
  | g :: r, b, ⟨h1, h2, h3, h4⟩ => by
    have ih := lens_cut hoe h4
    unfold cutG newN
    split
    · simp
    · split
      · simp only [lens]; omega
      · simp only [lens_app, lens]
        split <;> split <;> simp only [lens] <;> omega
theorem newN_nonneg {top off e : Int} (hoe : off < e) : ∀ {l : List (Int × Int)} {b : Int}, Rise top b l → 0 ≤ newN off e l
  | [], _, _ => Int.le_refl _
  | g :: r, b, ⟨h1, h2, h3, h4⟩ => by
    have ih := newN_nonneg hoe h4
    unfold newN
    split
    · omega
    · split <;> omega
theorem lens_nonneg {top : Int} : ∀ {l : List (Int × Int)} {b : Int}, Rise top b l → 0 ≤ lens l
  | [], _, _ => Int.le_refl _
  | g :: r, b, ⟨h1, h2, h3, h4⟩ => by have := lens_nonneg h4; simp only [lens]; omega
theorem Rise.len {top : Int} : ∀ {l : List (Int × Int)} {b : Int}, Rise top b l → -1 ≤ b → b ≤ top → (l.length : Int) ≤ top - b
  | [], _, _, _, h => by simp; omega
  | g :: r, b, ⟨h1, h2, h3, h4⟩, hb, ht => by have := Rise.len h4 (by omega) h3; simp; omega
/-- what is left of each hole: it ends by e, or it is what lies behind e -/
theorem cut_ends {mx off e : Int} (hoe : off < e) : ∀ {l : List (Int × Int)} {b : Int}, Rise mx b l → (∀ g ∈ l, g.2 ≤ e ∨ (g.2 = mx ∧ g.1 ≤ e)) → ∀ g ∈ cutG off e l, g.2 ≤ e ∨ g = (e, mx)
  | [], _, _, _ => by simp [cutG]
  | g :: r, b, ⟨h1, h2, h3, h4⟩, he => by
    have ih := cut_ends hoe h4 (fun x hx => he x (List.mem_cons_of_mem _ hx))
    have hg := he g (by simp)
    unfold cutG
    split
    · intro x hx
      rcases List.mem_cons.1 hx with rfl | hx
      · rcases hg with q | q
        · exact .inl q
        · exact .inr (Prod.ext (by dsimp only; omega) q.1)
      · have hxe := he x (List.mem_cons_of_mem _ hx)
        have hm := Rise.mem h4 x hx
        rcases hxe with q | q
        · exact .inl q
        · omega
    · split
      · intro x hx
        rcases List.mem_cons.1 hx with rfl | hx
        · exact .inl (by omega)
        · exact ih x hx
      · intro x hx
        simp only [List.mem_append] at hx
        rcases hx with (hx | hx) | hx
        · split at hx
          · rw [List.mem_singleton] at hx; subst hx; exact .inl (by dsimp only; omega)
          · cases hx
        · split at hx
          · rw [List.mem_singleton] at hx; subst hx
            rcases hg with q | q
            · exact .inl q
            · exact .inr (Prod.ext (by dsimp only; omega) q.1)
          · cases hx
        · exact ih x hx
theorem Rise.top {top t2 : Int} : ∀ {l : List (Int × Int)} {b : Int}, Rise top b l → (∀ g ∈ l, g.2 ≤ t2) → Rise t2 b l
  | [], _, _, _ => trivial
  | g :: r, b, ⟨h1, h2, h3, h4⟩, h => ⟨h1, h2, h g (by simp), Rise.top h4 (fun x hx => h x (List.mem_cons_of_mem _ hx))⟩
theorem Rise.init {top : Int} : ∀ {l : List (Int × Int)} {b : Int} {y : Int × Int}, Rise top b (l ++ [y]) → Rise top b l ∧ (∀ g ∈ l, g.2 < y.1) ∧ b < y.1 ∧ y.1 < y.2 ∧ y.2 ≤ top
  | [], b, y, h => ⟨trivial, by simp, h.1, h.2.1, h.2.2.1⟩
  | g :: r, b, y, ⟨h1, h2, h3, h4⟩ => by
    obtain ⟨k1, k2, k3, k4, k5⟩ := Rise.init (l := r) h4
    refine ⟨⟨h1, h2, h3, k1⟩, fun x hx => ?_, by omega, k4, k5⟩
    rcases List.mem_cons.1 hx with rfl | hx
    · exact k3
    · exact k2 x hx
end Go.Vc
end

section
open Go Go.Vc Go.Proofs
set_option linter.unusedVariables false
set_option linter.unusedSimpArgs false
set_option autoImplicit false
namespace Go.Vc.S11
def bnd (S : Hs) : Int := if 0 ≤ S.fin then S.fin else S.max
/-- a Holes as New and Put leave it -/
structure Good (S : Hs) : Prop where
  mx : 1 ≤ S.max ∧ S.max ≤ 65535
  fi : S.fin = -1 ∨ (1 ≤ S.fin ∧ S.fin ≤ S.max)
  ri : Rise (bnd S) (-1) S.gaps
  sum : S.held + lens S.gaps = bnd S
  he : 0 ≤ S.held
  bl : S.buf.length ≤ 65535
  bb : Byt S.buf
  ks : ∀ k ∈ S.seen, KeyR k
theorem Good.bnd_le {S : Hs} (h : Good S) : 1 ≤ bnd S ∧ bnd S ≤ S.max := by
  have := h.mx
  unfold bnd
  rcases h.fi with q | q
  · rw [if_neg (by omega)]; omega
  · rw [if_pos (by omega)]; omega
theorem Good.ok {S : Hs} (h : Good S) : OkS S := by
  have hb := h.bnd_le
  have hm := h.mx
  have hl := h.ri.len (by omega) (by omega)
  have hn := lens_nonneg h.ri
  have hs := h.sum
  have hh := h.he
  refine ⟨h.mx, fun g hg => ?_, by omega, h.bl, h.bb, by omega, by rcases h.fi with q | q <;> omega, h.ks⟩
  have := h.ri.mem g hg
  omega
theorem Good.new {mx : Int} (h1 : 1 ≤ mx) (h2 : mx ≤ 65535) : Good ⟨mx, [], [(0, mx)], -1, 0, []⟩ := by
  have e : bnd ⟨mx, [], [(0, mx)], -1, 0, []⟩ = mx := by simp [bnd]
  exact ⟨⟨h1, h2⟩, .inl rfl, by rw [e]; exact ⟨by dsimp only; omega, by dsimp only; omega, Int.le_refl _, trivial⟩, by rw [e]; simp [lens], Int.le_refl _, by simp, (fun x hx => by cases hx), (fun x hx => by cases hx)⟩
theorem cut_last {off e mx : Int} (hoe : off < e) : ∀ {l : List (Int × Int)} {b : Int} {y : Int × Int}, Rise mx b (l ++ [y]) → y.1 ≤ e → e < y.2 → ∃ c, cutG off e (l ++ [y]) = c ++ [(e, y.2)]
  | [], b, y, h, h1, h2 => by
    simp only [List.nil_append]
    unfold cutG
    split
    · exact ⟨[], by rw [List.nil_append]; congr 1; exact Prod.ext (by dsimp only; omega) rfl⟩
    · rw [if_neg (by omega), show min y.2 e = e by omega, if_pos h2]
      exact ⟨(if y.1 < max y.1 off then [(y.1, max y.1 off)] else []), by simp [cutG]⟩
  | g :: r, b, y, ⟨q1, q2, q3, q4⟩, h1, h2 => by
    obtain ⟨c, hc⟩ := cut_last hoe (l := r) q4 h1 h2
    have hy := (Rise.init (l := r) q4).2.2.1
    simp only [List.cons_append]
    unfold cutG
    rw [if_neg (by omega)]
    split
    · exact ⟨g :: c, by rw [hc]; rfl⟩
    · exact ⟨_ ++ c, by rw [hc, ← List.append_assoc]⟩
theorem Good.put {S : Hs} {off : Int} {l : List Int} {more : Bool} (h : Good S) (he : errS S off l.length more = 0) (hb : Byt l) : Good (putS S off l more) := by
  obtain ⟨p1, p2, _, _, p3, p4, p5, p6, p7⟩ := errS_ok he
  have O := h.ok
  have hB := h.bnd_le
  have hm := h.mx
  have hoe : off < off + (l.length : Int) := by omega
  have pok := putB_ok (off := off) (e := off + l.length) p2 rfl p3 hb S.gaps (S.buf ++ List.replicate ((off + (l.length : Int)).toNat - S.buf.length) 0) (fun g hg => ⟨(O.gp g hg).1, (O.gp g hg).2.1⟩) (by simp; omega) (fun x hx => by
    rcases List.mem_append.1 hx with q | q
    · exact O.bb x q
    · rw [List.eq_of_mem_replicate q]; omega)
  have hbl := h.bl
  have bl' : (putS S off l more).buf.length ≤ 65535 := by
    show (putB off (off + l.length) l S.gaps (S.buf ++ List.replicate ((off + (l.length : Int)).toNat - S.buf.length) 0)).length ≤ 65535
    rw [pok.1]; simp; omega
  have ks' : ∀ k ∈ (putS S off l more).seen, KeyR k := by
    intro k hk
    simp only [putS] at hk
    split at hk
    · exact h.ks k hk
    · rcases List.mem_append.1 hk with q | q
      · exact h.ks k q
      · rw [List.mem_singleton] at q; subst q; exact ⟨by dsimp only; omega, by dsimp only; omega⟩
  have nn := newN_nonneg hoe h.ri
  have lc := lens_cut hoe h.ri
  have rc := h.ri.cut hoe
  have hs := h.sum
  have hh := h.he
  by_cases hf : more = false ∧ S.fin < 0
  · obtain ⟨rfl, hf⟩ := hf
    have e0 : bnd S = S.max := by unfold bnd; rw [if_neg (by omega)]
    have e1 : bnd (putS S off l false) = off + l.length := by
      show (if 0 ≤ (if false = false ∧ S.fin < 0 then off + (l.length : Int) else S.fin) then (if false = false ∧ S.fin < 0 then off + (l.length : Int) else S.fin) else S.max) = _
      have e2 : (if false = false ∧ S.fin < 0 then off + (l.length : Int) else S.fin) = off + l.length := if_pos ⟨rfl, hf⟩
      rw [e2, if_pos (by omega)]
    have fi' : (putS S off l false).fin = off + l.length := by simp [putS, hf]
    have ht := p7 hf rfl
    rw [e0] at rc hs
    have main : Rise (off + l.length) (-1) (finG S (off + l.length) false (cutG off (off + l.length) S.gaps)) ∧ S.held + newN off (off + l.length) S.gaps + lens (finG S (off + l.length) false (cutG off (off + l.length) S.gaps)) = off + l.length := by
      have ri := h.ri
      rw [e0] at ri
      generalize off + (l.length : Int) = E at *
      have caseE : E = S.max → Rise E (-1) (finG S E false (cutG off E S.gaps)) ∧ S.held + newN off E S.gaps + lens (finG S E false (cutG off E S.gaps)) = E := by
        intro hE
        have : finG S E false (cutG off E S.gaps) = cutG off E S.gaps := by
          rcases List.eq_nil_or_concat (cutG off E S.gaps) with q | ⟨c, y, q⟩
          · rw [q, finG_nil]
          · rw [q] at rc ⊢
            unfold finG
            rw [if_pos ⟨rfl, hf⟩]
            simp only [List.concat_eq_append] at rc ⊢
            rw [List.getLast?_concat]
            simp only
            split
            · rename_i q2
              have := (Rise.init rc).2.2.2
              rw [if_neg (by omega), List.dropLast_concat]
              congr 2
              exact Prod.ext rfl (by dsimp only; omega)
            · rfl
        rw [this]
        exact ⟨by rw [hE]; rw [hE] at rc; exact rc, by omega⟩
      rcases List.eq_nil_or_concat S.gaps with q | ⟨c, y, q⟩
      · unfold topS at ht; rw [q] at ht; exact caseE (by simp at ht; omega)
      · rw [List.concat_eq_append] at q
        have tq : topS S = if y.2 = S.max then y.1 else S.max := by unfold topS; rw [q, List.getLast?_concat]
        by_cases hy : y.2 = S.max
        · rw [tq, if_pos hy] at ht
          by_cases hlt : E < S.max
          · have ri2 := ri
            rw [q] at ri2
            obtain ⟨d, hd⟩ := cut_last hoe ri2 ht (by omega)
            rw [← q] at hd
            rw [hd] at rc lc ⊢
            obtain ⟨k1, k2, k3, k4, k5⟩ := Rise.init rc
            have : finG S E false (d ++ [(E, y.2)]) = d := by
              unfold finG
              rw [if_pos ⟨rfl, hf⟩, List.getLast?_concat]
              simp only
              rw [if_pos hy, if_pos (Int.le_refl _), List.dropLast_concat]
            rw [this]
            rw [lens_app] at lc
            simp only [lens] at lc
            exact ⟨k1.top (fun g hg => by have := k2 g hg; dsimp only at this; omega), by omega⟩
          · exact caseE (by omega)
        · rw [tq, if_neg hy] at ht
          exact caseE (by omega)
    refine ⟨h.mx, .inr (by rw [fi']; show 1 ≤ off + (l.length : Int) ∧ off + (l.length : Int) ≤ S.max; omega), by rw [e1]; exact main.1, by rw [e1]; exact main.2, ?_, bl', pok.2, ks'⟩
    show 0 ≤ S.held + newN off (off + l.length) S.gaps
    omega
  · have fi' : (putS S off l more).fin = S.fin := by simp only [putS]; rw [if_neg hf]
    have e1 : bnd (putS S off l more) = bnd S := by unfold bnd; rw [fi']; rfl
    have g' : (putS S off l more).gaps = cutG off (off + l.length) S.gaps := by simp only [putS]; exact finG_no hf
    refine ⟨h.mx, by rw [fi']; exact h.fi, by rw [e1, g']; exact rc, ?_, ?_, bl', pok.2, ks'⟩
    · rw [e1, g']
      show S.held + newN off (off + l.length) S.gaps + _ = _
      omega
    · show 0 ≤ S.held + newN off (off + l.length) S.gaps
      omega
end Go.Vc.S11
end
