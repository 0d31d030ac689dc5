import Derived.Test.YtkkdnnpnbmpifaaS11Parts
open Go Go.Vc Go.Proofs
set_option linter.unusedVariables false
set_option linter.unusedSimpArgs false
set_option autoImplicit false
namespace Go.Vc.S11
def cBl : Cod Bool := ⟨1, fun b => [.bool b], fun _ => rfl, by simp [Value.oneCell']⟩
theorem boolAt {w : World} {s : Sl} {l : List Bool} (h : Sees cBl w s l) (i : Nat) {b : Bool} (hi : l[i]? = some b) : w.cell? (s.at 1 i) = some (.bool b) := by
  obtain ⟨h1, h2⟩ := List.getElem?_eq_some_iff.1 hi
  have := h.elem h1 0 (by simp [cBl])
  rw [add_zero] at this
  rw [h2] at this
  exact this
/-- what stands at the head of each turn of HolePieces; cm: as it lies in memory, come: what has come -/
structure St4 (N : Nat) (w0 w : World) (h m : Nat) (D : List Int) (ls : List (Int × List Int × Bool)) (cm come : List Bool) (S : Hs) (lf : List (Int × List Int)) (B G sd sp sc : Sl) (tk : List (Int × Sl × Bool)) : Prop where
  c : Came D ls come S lf
  H : Hol N w h S B G m
  u : Upd [] [] w0 w
  hd : SeesB w sd D
  pc : Pcs w sp sd.blk tk ls
  hm : Sees cBl w sc cm
  o : Own N 1 w sc
  n0 : w0.heap.size ≤ N
  cl : cm.length = ls.length
  bd : ∀ x ∈ sd.blk, x < N
  bp : ∀ x ∈ sp.blk, x < N
  dis : ∀ x ∈ sc.blk, x ∉ hblk h B G m
section
variable {R : SV → World → Prop} {N h m : Nat} {w0 w w1 : World} {D : List Int} {ls : List (Int × List Int × Bool)} {cm come : List Bool} {S : Hs} {lf : List (Int × List Int)} {B G B' G' sd sp sc : Sl} {tk : List (Int × Sl × Bool)}
theorem St4.upd {ms ns : List Nat} (t : St4 N w0 w h m D ls cm come S lf B G sd sp sc tk) (u : Upd ms ns w w1) (hN : ∀ x ∈ ms, N ≤ x) (h1 : ∀ x ∈ hblk h B G m, x ∉ ms) (h2 : ∀ x ∈ sc.blk, x ∉ ms) : St4 N w0 w1 h m D ls cm come S lf B G sd sp sc tk := by
  have n0 := t.n0
  have hd : ∀ x ∈ sd.blk, x ∉ ms := fun x hx hm => by have := t.bd x hx; have := hN x hm; omega
  have hp : ∀ x ∈ sp.blk, x ∉ ms := fun x hx hm => by have := t.bp x hx; have := hN x hm; omega
  exact ⟨t.c, t.H.upd u h1, t.u.step0 u (fun x hx => by have := hN x hx; omega), t.hd.upd u hd, t.pc.upd u hp hd, t.hm.upd u h2, t.o.upd u h2, t.n0, t.cl, t.bd, t.bp, t.dis⟩
theorem St4.old {ns : List Nat} (t : St4 N w0 w h m D ls cm come S lf B G sd sp sc tk) (u : Upd [] ns w w1) : St4 N w0 w1 h m D ls cm come S lf B G sd sp sc tk := t.upd u (by simp) (by simp) (by simp)
/-- a piece is laid in -/
theorem St4.put {k : Nat} {p : Int × List Int × Bool} (t : St4 N w0 w h m D ls cm come S lf B G sd sp sc tk) (hc : Cutting D ls) (hD : Byt D) (hD2 : D.length ≤ 65535) (hp : ls[k]? = some p) (V : Upd (hblk h B G m) [] w w1) (H' : Hol N w1 h (putS S p.1 p.2.1 p.2.2) B' G' m) (hn : ∀ x ∈ hblk h B' G' m, x ∈ hblk h B G m ∨ w.heap.size ≤ x) :
    St4 N w0 w1 h m D ls cm (come.set k true) (putS S p.1 p.2.1 p.2.2) (lf ++ [(p.1, p.2.1)]) B' G' sd sp sc tk := by
  have n0 := t.n0
  have lt := t.H.lt
  have hd : ∀ x ∈ sd.blk, x ∉ hblk h B G m := fun x hx hm => by have := t.bd x hx; have := lt x hm; omega
  have hps : ∀ x ∈ sp.blk, x ∉ hblk h B G m := fun x hx hm => by have := t.bp x hx; have := lt x hm; omega
  refine ⟨t.c.put hc hD hD2 hp, H', t.u.step0 V (fun x hx => by have := lt x hx; omega), t.hd.upd V hd, t.pc.upd V hps hd, t.hm.upd V t.dis, t.o.upd V t.dis, n0, t.cl, t.bd, t.bp, fun x hx hm => ?_⟩
  rcases hn x hm with q | q
  · exact t.dis x hx q
  · have := (t.o.blk x hx).2; omega
set_option maxRecDepth 20000 in
theorem t4 {J : Int → World → Prop} {k b1 : Nat} {n4 n5 : Int} {b : Bool} {v : Bool} (st : St4 N w0 w h m D ls cm (cm.set k true) S lf B G sd sp sc tk) (hc : Cutting D ls) (hD0 : 0 < D.length) (hD2 : D.length ≤ 4096) (hl : ls.length ≤ 100) (hp : cm[k]? = some v) (hb1 : b1 ∉ sc.blk)
    (hJ : ∀ w1, St4 N w0 w1 h m D ls (cm.set k true) (cm.set k true) S lf B G sd sp sc tk → J (((cm.set k true).count true : Nat) : Int) w1) : tail4 (k : Int) sc b1 (some ⟨h, 0, none⟩) sp R sd J w n4 n5 b ((cm.count true : Nat) : Int) := by
  unfold tail4
  obtain ⟨kl, kv⟩ := List.getElem?_eq_some_iff.1 hp
  have hcl := st.hm.len
  have hpl := st.pc.sees.len
  have hpk := st.pc.len
  have cl := st.cl
  have cc : cm.count true ≤ cm.length := List.count_le_length
  intro J3 hJ3
  have key : J3 (((cm.set k true).count true : Nat) : Int) w := by
    refine hJ3 _ _ ?_
    clear hJ3
    refine needIx (by omega) (by omega) (st.hm.isSome (by decide) (by omega)) ?_
    rw [Int.toNat_natCast]
    refine own_set (c := cBl) (x := true) st.hm st.o (by decide) kl rfl (fun x hx hm => by rw [List.mem_singleton] at hm; subst hm; exact hb1 hx) fun w1 h1 o1 u1 => ?_
    have sd1 : ∀ x ∈ sd.blk, x ∉ sc.blk := fun x hx hm => by have := st.bd x hx; have := (st.o.blk x hm).1; omega
    have sp1 : ∀ x ∈ sp.blk, x ∉ sc.blk := fun x hx hm => by have := st.bp x hx; have := (st.o.blk x hm).1; omega
    have n0 := st.n0
    have st1 : St4 N w0 w1 h m D ls (cm.set k true) (cm.set k true) S lf B G sd sp sc tk := ⟨st.c, st.H.upd u1 (fun x hx hm => st.dis x hm hx), st.u.step0 u1 (fun x hx => by have := (st.o.blk x hx).1; omega), st.hd.upd u1 sd1, st.pc.upd u1 sp1 sd1, h1, o1, n0, by simpa using cl, st.bd, st.bp, st.dis⟩
    clear st
    have bl := st1.c.g.bl
    have hw := st1.c.whole hc hD0 (by omega)
    have ew : wholeS S = ((((cm.set k true).count true : Nat) : Int) == (sp.len : Int)) := by
      rw [hw, Bool.eq_iff_iff]
      simp
      omega
    refine c18 st1.H (fun hw => (st1.c.bytes hc (by omega) hw).1) (by omega) fun s6 w2 u2 hs6 ho6 => ⟨_, _, rfl, kp u2, ?_⟩
    have st2 := st1.old u2
    refine c16 st2.H ⟨_, rfl, kp (Upd.refl _), brf (by rw [ew]; simp) (brf (by rw [ew]; simp) ?_)⟩
    refine brb (fun hq => ?_) (fun hq => hJ w2 st2)
    rw [if_pos hq, (st1.c.bytes hc (by omega) hq).2] at hs6
    exact cSameT hs6 st2.hd (by omega) fun w3 u3 => ⟨_, rfl, kp u3, brf rfl (hJ w3 (st2.old u3))⟩
  clear hJ3
  refine needIx (by omega) (by omega) (st.hm.isSome (by decide) (by omega)) ⟨v, by rw [Int.toNat_natCast]; exact boolAt st.hm k hp, ?_⟩
  have hs : (cm.set k true).count true = cm.count true + (if v then 0 else 1) := by
    rw [List.count_set kl, kv]
    have : 0 < List.count v cm := List.count_pos_iff.2 (by rw [← kv]; exact List.getElem_mem kl)
    cases v
    · simp
    · simp
      omega
  rw [hs] at key
  cases v
  · refine brt rfl ?_
    rw [wr_i64 (by omega) (by omega)]
    simpa using key
  · exact brf rfl (by simpa using key)
/-- what is asked of one call of Put -/
theorem chk4 {J2 : World → Prop} {ns : List Nat} {k : Nat} {p : Int × List Int × Bool} {v : Bool} {S0 : Hs} {lf0 : List (Int × List Int)} (c : Came D ls cm S0 lf0) (st : St4 N w0 w h m D ls cm come S lf B G sd sp sc tk) (hc : Cutting D ls) (hD : Byt D) (hD2 : D.length ≤ 4096) (hp : ls[k]? = some p) (hv : cm[k]? = some v)
    (hJ : ∀ w1, Upd [] ns w w1 → J2 w1) :
    Br ((0 : Int) != 0) (∀ w1, Upd [] ns w w1 → R (.bool false) w1) (Need (decide (0 ≤ (k : Int)) && decide ((k : Int) < (sc.len : Int)) && sc.ptr.isSome) (∃ b2 : Bool, w.cell? (sc.at 1 k) = some (.bool b2) ∧
      Br (!(sameS S0 p.1 p.2.1 p.2.2 == b2)) (∀ w1, Upd [] ns w w1 → R (.bool false) w1) (Need (decide (0 ≤ (k : Int)) && decide ((k : Int) < (sc.len : Int)) && sc.ptr.isSome) (∃ b3 : Bool, w.cell? (sc.at 1 k) = some (.bool b3) ∧
        Br (!(b3 == (newN p.1 (p.1 + p.2.1.length) S0.gaps == 0))) (∀ w1, Upd [] ns w w1 → R (.bool false) w1) (Need (decide (0 ≤ (k : Int)) && decide ((k : Int) < (sp.len : Int)) && sp.ptr.isSome) (∃ s : Sl, w.cell? ((sp.at 3 k).add 1) = some s.val ∧
          Br (wr .i64 (((p.2.1.length : Int) - newN p.1 (p.1 + p.2.1.length) S0.gaps) + newN p.1 (p.1 + p.2.1.length) S0.gaps) != (s.len : Int)) (∀ w1, Upd [] ns w w1 → R (.bool false) w1) (∀ w1, Upd [] ns w w1 → J2 w1))))))) := by
  obtain ⟨kl, kv⟩ := List.getElem?_eq_some_iff.1 hv
  obtain ⟨pl, pv⟩ := List.getElem?_eq_some_iff.1 hp
  obtain ⟨r1, r2, r3, r4, r5, r6, r7⟩ := hc.each p (List.mem_of_getElem? hp)
  have hcl := st.hm.len
  have hpl := st.pc.sees.len
  have hpk := st.pc.len
  have e1 := c.same hc hD (by omega) hp
  have e2 := c.newZ hc (by omega) hp
  rw [hv] at e1 e2
  have f1 : sameS S0 p.1 p.2.1 p.2.2 = v := by
    rw [Bool.eq_iff_iff, e1]; simp
  have f2 : (newN p.1 (p.1 + p.2.1.length) S0.gaps == 0) = v := by
    rw [Bool.eq_iff_iff, beq_iff_eq, e2]; simp
  have tl : k < tk.length := by omega
  obtain ⟨q, q1, q2, q3, q4, q5, q6⟩ := st.pc.each k tk[k] (List.getElem?_eq_getElem tl)
  rw [hp] at q1
  cases q1
  have cix : ∀ X : Prop, X → Need (decide (0 ≤ (k : Int)) && decide ((k : Int) < (sc.len : Int)) && sc.ptr.isSome) X := fun X x => needIx (by omega) (by omega) (st.hm.isSome (by decide) (by omega)) x
  refine brf rfl (cix _ ⟨v, boolAt st.hm k hv, brf (by rw [f1]; simp) (cix _ ⟨v, boolAt st.hm k hv, brf (by rw [f2]; simp) ?_⟩)⟩)
  refine needIx (by omega) (by omega) (st.pc.sees.isSome (by decide) (by omega)) ⟨_, st.pc.sees.elem tl 1 (by simp [cPc]), brf ?_ hJ⟩
  have := q4.len
  rw [wr_i64 (by omega) (by omega)]
  simp
  omega
end
end Go.Vc.S11
