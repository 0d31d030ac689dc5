import Derived.Test.YthijmbkpkopdpaaTopFirstWinsK5
import Derived.Test.YthijmbkpkopdpaaTopFirstWinsK3
import Derived.Test.YthijmbkpkopdpaaTopFirstWinsK2
import Derived.KernelRfl
section
open Go Go.Vc Go.Proofs
set_option linter.unusedVariables false
set_option linter.unusedSimpArgs false
set_option autoImplicit false
namespace Go.Vc.Stop
/-- blocks that are looked at -/
structure OptIn (P : Nat → Prop) (s : Sl) (l : List Opt) (os : List (Int × Sl)) : Prop where
  row : 0 < l.length → ∀ x ∈ s.blk, P x
  each : ∀ i (h : i < l.length) (h' : i < os.length), 0 < l[i].data.length → ∀ x ∈ os[i].2.blk, P x
theorem OptIn.mono {P Q : Nat → Prop} {s : Sl} {l : List Opt} {os : List (Int × Sl)} (h : OptIn P s l os) (hp : ∀ x, P x → Q x) : OptIn Q s l os :=
  ⟨fun a x hx => hp x (h.row a x hx), fun i a b c x hx => hp x (h.each i a b c x hx)⟩
theorem Sees.updP {α : Type} {c : Cod α} {w w1 : World} {s : Sl} {l : List α} {m n : List Nat} (h : Sees c w s l) (u : Upd m n w w1) (hm : 0 < l.length → ∀ x ∈ s.blk, x ∉ m) : Sees c w1 s l := by
  refine ⟨h.len, h.row.upd u (fun a ha hne => hm ?_ _ (by simp [blk_some ha]))⟩
  cases l with
  | nil => exact absurd (by simp [Cod.cells]) hne
  | cons x r => simp
theorem Opts.updP {w w1 : World} {s : Sl} {l : List Opt} {os : List (Int × Sl)} {m n : List Nat} (h : Opts w s l os) (u : Upd m n w w1) (hm : OptIn (fun x => x ∉ m) s l os) : Opts w1 s l os :=
  ⟨Sees.updP h.row u (fun hp => hm.row (by rw [← h.len]; exact hp)), h.len, h.kind, fun i hi => Sees.updP (h.each i hi) u (hm.each i hi _)⟩
theorem Sees.inH {α : Type} {c : Cod α} {w : World} {s : Sl} {l : List α} (h : Sees c w s l) (hc : 0 < c.sz) : 0 < l.length → ∀ x ∈ s.blk, x < w.heap.size := by
  intro hp x hx
  have h1 := h.elem hp 0 (by rw [c.len]; exact hc)
  have e : (s.at c.sz 0).block = x := by
    unfold Sl.blk at hx
    unfold Sl.at
    cases hq : s.ptr with
    | none => rw [hq] at hx; simp at hx
    | some a => rw [hq] at hx; simp at hx; subst hx; simp [Addr.add]
  have := cell_lt h1
  rw [← e]
  exact this
theorem Opts.inH {w : World} {s : Sl} {l : List Opt} {os : List (Int × Sl)} (h : Opts w s l os) : OptIn (fun x => x < w.heap.size) s l os :=
  ⟨fun hp => Sees.inH h.row (by decide) (by rw [h.len]; exact hp), fun i hi _ => Sees.inH (h.each i hi) (by decide)⟩
section
variable {N t : Nat} {w : World} {R : SV → World → Prop} {T : Tv} {hd : List Nat}
set_option maxRecDepth 20000 in
set_option maxHeartbeats 2000000 in
/-- a fragment is offered -/
theorem c7 {v : IpV} {s0 d0 : Sl} {o0 : List (Int × Sl)} (hT : TbAt N w t T hd) (hlt : (T.cs.length : Int) < T.max) (hst : ∀ c ∈ T.cs, c.state = 0 ∨ c.state = 1 ∨ c.state = 2)
    (hk : (keyH v).Ok) (hO : Opts w s0 v.opts o0) (hl : v.opts.length ≤ 4398046511000) (hod : ∀ o ∈ v.opts, o.data.length ≤ 140737488351232) (hbo : ∀ o ∈ v.opts, Byt o.data) (hD : SeesB w d0 v.data) (hdl : v.data.length ≤ 140737488351232) (hcap : d0.len ≤ d0.cap) (hbd : Byt v.data)
    (hdo : OptIn (fun x => x ∉ hd) s0 v.opts o0) (hdd : 0 < v.data.length → ∀ x ∈ d0.blk, x < w.heap.size ∧ x ∉ hd)
    (k : ∀ T' out o e so sd os w' hd', OffR T v T' out o e → Upd hd [] w w' → TbAt N w' t T' hd' → (∀ x ∈ hd', x ∈ hd ∨ w.heap.size ≤ x) → Opts w' so out.opts os → SeesB w' sd out.data → (∀ x ∈ sd.blk, w.heap.size ≤ x ∨ x ∈ d0.blk) → R (.tuple [ipSV out so sd, .int .i64 o, .int .i64 e]) w') :
    Ret Try.prog 7 [.ptr (some ⟨t, 0, none⟩), ipSV v s0 d0] w R := by
  refine f7_of _ _ _ _ _ _ _ _ _ _ _ _ _ _ _ _ ?_
  unfold vc7
  intro b b1 w1 u1
  have nb := u1.new (b := b) (by simp)
  have nb1 := u1.new (b := b1) (by simp)
  have z1 := u1.size
  have lt := hT.lt
  obtain ⟨mb, bT, mT, tin, mbin, tne, _⟩ := hT.more
  have hN : N ≤ w.heap.size := by have := lt t tin; omega
  -- an error, nothing changed
  have ek : ∀ (e : Int) (w3 : World), OffR T v T ipZ 0 e → Upd hd [] w w3 → TbAt N w3 t T hd → R (.tuple [ipSV ipZ ⟨none, 0, 0⟩ ⟨none, 0, 0⟩, .int .i64 0, .int .i64 e]) w3 := fun e w3 ho u h =>
    k T ipZ 0 e ⟨none, 0, 0⟩ ⟨none, 0, 0⟩ [] w3 hd ho u h (fun x hx => .inl hx) (Opts.nil _ _ _) (Sees.nil _ _ _ _) (by simp [Sl.blk])
  have ek' : ∀ (e : Int) (w3 : World), OffR T v T ipZ 0 e → Upd [] [] w w3 → R (.tuple [ipSV ipZ ⟨none, 0, 0⟩ ⟨none, 0, 0⟩, .int .i64 0, .int .i64 e]) w3 := fun e w3 ho u => ek e w3 ho (u.wide (by simp)) (hT.old u)
  have hb1 : ∀ x ∈ [b1], w.heap.size ≤ x := fun x hx => by simp at hx; omega
  refine c23 (v := v) (hO.old u1) (by omega) (fun o ho => by have := hod o ho; omega) hD.len (by omega) fun w2 u2 => ⟨_, rfl, kp u2, bre' (fun hne w3 u3 => ?_) (fun he => ?_)⟩
  · exact ek' _ w3 (.bad hne) ((u1.then u2).step0 u3 hb1)
  intro J hJ
  have v2 := u1.then u2
  have z2 := v2.size; have z12 := u2.size
  have frag : ¬ (v.mf = false ∧ v.off = 0) → J 0 0 false false 0 0 0 0 (fun _ => 0) 0 (fun _ => 0) ⟨none, 0, 0⟩ ⟨none, 0, 0⟩ w2 := by
    intro hfr
    refine hJ _ _ _ _ _ _ _ _ _ _ _ _ _ _ ?_
    clear hJ
    intro b4
    dsimp only [deref]
    refine ⟨_, (bT.old v2).at_ 3 (v := .map (some mb)) rfl, ?_⟩
    dsimp only [derefN]
    intro w3 u3
    have nb4 := u3.new (b := b4) (by simp)
    have v3 := v2.then u3
    have z3 := v3.size; have z23 := u3.size
    refine ⟨und56, _, mT.upd v3 (by simp), hT.keys (k := keyH v) hk, ents_shape, fun p bb hf => ?_⟩
    have hf' : Found (ents T.cs) (kSV (keyH v)).enc (.ptr none) (.ptr p) bb := hf
    have hT3 := hT.old v3
    -- the piece laid in, and what follows
    have go : (∀ i (hi : i < T.cs.length), (kSV T.cs[i].key).enc = (kSV (keyH v)).enc → readyV T.cs[i] 125 123 = 0) →
        ∀ R' : SV → World → Prop, (∀ (p : Option Addr) (b_6 : Bool) (n_8 n_9 : Int) (b_7 b_8 : Bool) (n_10 : Int) (w5 : World), Keeps [b, b1, b4] w3 w5 →
          (tail7r b1 R p b b4 v.off v.tos v.id v.df v.mf v.ttl v.proto v.sv v.sa v.dv v.da s0 d0 0 0 false false 0 0 0 0 (fun _ => 0) 0 (fun _ => 0) ⟨none, 0, 0⟩ ⟨none, 0, 0⟩ b_6 n_8 n_9 b_7 b_8 (some ⟨t, 0, none⟩) n_10 w5) → R' (.tuple [.struct [.ptr p, .bool b_6, .struct [.int .i64 n_8, .int .i64 n_9, .bool b_7], .bool b_8], .int .i64 n_10]) w5) →
        Ret Try.prog 25 [.ptr (some ⟨t, 0, none⟩), kSV (keyH v), .int .i64 65515, .int .i64 v.off, .slice d0, .bool v.mf] w3 R' := by
      intro hrd R' hR
      have hstk : ∀ i (hi : i < T.cs.length), (kSV T.cs[i].key).enc = (kSV (keyH v)).enc → T.cs[i].state = 0 := fun i hi e => by
        have h0 := hrd i hi e
        have h1 := hst _ (List.getElem_mem hi)
        unfold readyV at h0
        split at h0
        · cases h0
        · split at h0
          · cases h0
          · omega
      have bx3 : ∀ x ∈ [b, b1, b4], w.heap.size ≤ x ∧ x < w3.heap.size ∧ x ∉ hd := fun x hx => by
        have q : w.heap.size ≤ x ∧ x < w3.heap.size := by
          simp only [List.mem_cons, List.not_mem_nil, or_false] at hx
          rcases hx with e | e | e <;> subst e <;> omega
        exact ⟨q.1, q.2, fun hm => by have := lt x hm; omega⟩
      have b1x := bx3 b1 (by simp)
      -- behind the hold
      have held : ∀ (T1 : Tv) (i : Nat) (hi : i < T1.cs.length) (hd1 : List Nat) (b9 : Nat) (w8 : World) (J2 : Int → World → Prop) (fr : Bool) (x1 x2 : Int) (y1 y2 : Bool), TbAt N w8 t T1 hd1 → T1.cs[i].state = 0 → Upd hd [] w w8 → (∀ x ∈ hd1, x ∈ hd ∨ w.heap.size ≤ x) → (∀ x ∈ hd1, x ∉ [b, b1, b4, b9]) → w.heap.size ≤ b9 → b9 < w8.heap.size → w3.heap.size ≤ w8.heap.size →
          (∀ T' out o e, Acc T1 i (stC T1.cs[i] v) T' out o e → OffR T v T' out o e) →
          (∀ z w6, tail7b z b1 w6 R (some ⟨T1.cs[i].p, 0, none⟩) b b4 b9 v.off v.tos v.id v.df v.mf v.ttl v.proto v.sv v.sa v.dv v.da s0 d0 0 0 false false 0 0 0 0 (fun _ => 0) 0 (fun _ => 0) ⟨none, 0, 0⟩ ⟨none, 0, 0⟩ fr x1 x2 y1 y2 J2) → J2 0 w8 := by
        intro T1 i hi hd1 b9 w8 J2 fr x1 x2 y1 y2 hT1 hs1 U8 sub8 off8 g1 g2 g3 hacc hb
        have hO8 := Opts.updP hO U8 hdo
        have hD8 := Sees.updP hD U8 (fun hp x hx => (hdd hp x hx).2)
        refine body7_ok (w0 := w) (hd0 := hd) hT1 hi hs1 U8 hN sub8 (fun x hx => ?_) hO8 hl hod hbo hD8 hdl (fun T' out o e so sd os w' hd' a1 a2 a3 a4 a5 a6 a7 => k T' out o e so sd os w' hd' (hacc T' out o e a1) a2 a3 a4 a5 a6 (fun x hx => .inl (a7 x hx))) (hb 0 w8)
        refine ⟨fun hm => off8 x hm hx, ?_⟩
        simp only [List.mem_cons, List.not_mem_nil, or_false] at hx
        rcases hx with e | e | e | e <;> subst e <;> omega
      refine c25 (k := keyH v) hT3 hk hstk (hD.old v3) hcap hbd (fun hp x hx => ⟨by have := (hdd hp x hx).1; omega, (hdd hp x hx).2⟩) (fun i hi w5 ek1 u5 he1 => ?_) (fun i hi w5 hd5 ek1 he1 u5 hT5 sub5 => ?_) (fun p5 w5 no u5 he1 => ?_) (fun p5 w5 hdc no he1 u5 hC5 nw5 => ?_)
      · refine hR _ _ _ _ _ _ _ w5 (kp u5) (rest7_err (fun h => he1 (by unfold lerr at h; split at h; cases h; exact h)) fun w6 u6 => ?_)
        exact ek' _ w6 (.far i hi he hfr ek1 (hrd i hi ek1) he1) ((v3.then u5).step0 u6 hb1)
      · have U5 : Upd hd [] w w5 := (v3.wide (m' := hd) (by simp)).step u5 (fun x hx => .inr hx)
        have sub5' : ∀ x ∈ hd5, x ∈ hd ∨ w3.heap.size ≤ x := sub5
        have bx5 : ∀ x ∈ [b, b1, b4], x ∉ hd5 := fun x hx hm => by
          rcases sub5 x hm with q | q
          · exact (bx3 x hx).2.2 q
          · have := (bx3 x hx).2.1; omega
        refine hR _ _ _ _ _ _ _ w5 (kpm u5 (fun x hx => (bx3 x hx).2.1) (fun x hx => (bx3 x hx).2.2)) ?_
        by_cases hdup : newN v.off (v.off + v.data.length) T.cs[i].S.gaps = 0 ∧ endF T.cs[i].S (putS T.cs[i].S v.off v.data v.mf) = false
        · refine rest7_dup hdup fun w6 u6 => ?_
          refine k _ ipZ 0 121 ⟨none, 0, 0⟩ ⟨none, 0, 0⟩ [] w6 hd5 (.dup i hi he hfr ek1 (hrd i hi ek1) he1 hdup) (U5.step u6 (fun x hx => .inl (hb1 x hx))) (hT5.upd u6 (fun x hx hm => by simp at hm; subst hm; exact bx5 x (by simp) hx)) (fun x hx => ?_) (Opts.nil _ _ _) (Sees.nil _ _ _ _) (by simp [Sl.blk])
          rcases sub5 x hx with q | q
          · exact .inl q
          · exact .inr (by omega)
        · refine rest7_ok hdup fun b9 w6 u6 J2 hJ2 R2 hR2 => ?_
          have n9 := u6.new (b := b9) (by simp)
          have hT6 := hT5.old u6
          have z5 := u5.size; have z6 := u6.size
          have hi5 : i < ({ T with cs := T.cs.set i (putC T.cs[i] v.off v.data v.mf) } : Tv).cs.length := by simpa using hi
          have e5 : ({ T with cs := T.cs.set i (putC T.cs[i] v.off v.data v.mf) } : Tv).cs[i] = putC T.cs[i] v.off v.data v.mf := by simp
          have c26 := c26F (R := R2) (x1 := newN v.off (v.off + v.data.length) T.cs[i].S.gaps) (x2 := v.data.length - newN v.off (v.off + v.data.length) T.cs[i].S.gaps) (y1 := sameS T.cs[i].S v.off v.data v.mf) (y2 := endF T.cs[i].S (putS T.cs[i].S v.off v.data v.mf)) hT6 hi5
          rw [e5] at c26
          refine c26 fun w8 hd8 u8 hT8 sub8 => ?_
          have l5 := hT5.lt
          have off9 : ∀ x ∈ hd8, x ∉ [b, b1, b4, b9] := fun x hx hm => by
            rcases sub8 x hx with q | q
            · have := (l5 x q).2
              by_cases e : x = b9
              · omega
              · exact bx5 x (by simp at hm ⊢; omega) q
            · by_cases e : x = b9
              · omega
              · have := (bx3 x (by simp at hm ⊢; omega)).2.1; omega
          have offh : ∀ x ∈ [b, b1, b4, b9], x < w6.heap.size ∧ x ∉ hd5 := fun x hx => by
            by_cases e : x = b9
            · exact ⟨by omega, fun hm => by have := (l5 x hm).2; omega⟩
            · have hx' : x ∈ [b, b1, b4] := by simp at hx ⊢; omega
              exact ⟨by have := (bx3 x hx').2.1; omega, bx5 x hx'⟩
          refine hR2 w8 (kpm u8 (fun x hx => (offh x hx).1) (fun x hx => (offh x hx).2)) ?_
          have hset : (T.cs.set i (putC T.cs[i] v.off v.data v.mf)).set i (incC (putC T.cs[i] v.off v.data v.mf)) = T.cs.set i (incC (putC T.cs[i] v.off v.data v.mf)) := by simp
          have hT8' : TbAt N w8 t { T with cs := T.cs.set i (incC (putC T.cs[i] v.off v.data v.mf)) } hd8 := by
            have := hT8
            simp only [hset] at this
            exact this
          have e8 : ({ T with cs := T.cs.set i (incC (putC T.cs[i] v.off v.data v.mf)) } : Tv).cs[i]'(by simpa using hi) = incC (putC T.cs[i] v.off v.data v.mf) := by simp
          have z8 := u8.size
          refine held { T with cs := T.cs.set i (incC (putC T.cs[i] v.off v.data v.mf)) } i (by simpa using hi) hd8 b9 w8 J2 _ _ _ _ _ hT8' (by rw [e8]; exact hstk i hi ek1) ((U5.step u6 (by simp)).step u8 (fun x hx => ?_)) (fun x hx => ?_) off9 (by omega) (by omega) (by omega) (fun T' out o e ha => .more i hi T' out o e he hfr ek1 (hrd i hi ek1) he1 hdup (by rw [e8] at ha; exact ha)) (fun z w' => by rw [e8]; exact hJ2 z w')
          · rcases sub5 x hx with q | q
            · exact .inr q
            · exact .inl (by omega)
          · rcases sub8 x hx with q | q
            · rcases sub5 x q with q | q
              · exact .inl q
              · exact .inr (by omega)
            · exact .inr (by omega)
      · refine hR _ _ _ _ _ _ _ w5 (kp u5) (rest7_err (fun h => he1 (by unfold lerr at h; split at h; cases h; exact h)) fun w6 u6 => ?_)
        exact ek' _ w6 (.far0 he hfr no he1) ((v3.then u5).step0 u6 hb1)
      · refine hR _ _ _ _ _ _ _ w5 (kp u5) ?_
        have v5 := v3.then u5
        by_cases hdup : newN v.off (v.off + v.data.length) newS.gaps = 0 ∧ endF newS (putS newS v.off v.data v.mf) = false
        · exact rest7_dup hdup fun w6 u6 => ek' _ w6 (.dup0 he hfr no he1 hdup) (v5.step0 u6 hb1)
        · refine rest7_ok hdup fun b9 w6 u6 J2 hJ2 R2 hR2 => ?_
          have n9 := u6.new (b := b9) (by simp)
          have v6 := v5.then u6
          have hT6 := hT.old v6
          have z5 := u5.size; have z6 := u6.size
          have hCl := hC5.lt
          have hdisc : ∀ x ∈ hdc, x ∉ hd := fun x hx hm => by have := nw5 x hx; have := lt x hm; omega
          refine c26N (c := putC (newC (keyH v) T.ticks p5) v.off v.data v.mf) hT6 hlt (hC5.upd u6 (by simp)) hdisc no fun w8 u8 hT8 => ?_
          have z8 := u8.size
          have off9 : ∀ x ∈ hd ++ hdc, x ∉ [b, b1, b4, b9] := fun x hx hm => by
            have q : x < w5.heap.size ∧ (x ∈ hd ∨ w3.heap.size ≤ x) := by
              rcases List.mem_append.1 hx with q | q
              · exact ⟨by have := lt x q; omega, .inl q⟩
              · exact ⟨(hCl x q).2, .inr (nw5 x q)⟩
            by_cases e : x = b9
            · omega
            · have hx' := bx3 x (by simp at hm ⊢; omega)
              rcases q.2 with q2 | q2
              · exact hx'.2.2 q2
              · omega
          refine hR2 w8 (kpm u8 (fun x hx => ?_) (fun x hx hm => off9 x hm hx)) ?_
          · by_cases e : x = b9
            · omega
            · have := (bx3 x (by simp at hx ⊢; omega)).2.1; omega
          have e8 : (T.cs ++ [incC { putC (newC (keyH v) T.ticks p5) v.off v.data v.mf with began := T.begun }])[T.cs.length]'(by simp) = incC { putC (newC (keyH v) T.ticks p5) v.off v.data v.mf with began := T.begun } := by simp
          refine held { T with begun := wr .i64 (T.begun + 1), cs := T.cs ++ [incC { putC (newC (keyH v) T.ticks p5) v.off v.data v.mf with began := T.begun }] } T.cs.length (by simp) (hd ++ hdc) b9 w8 J2 _ _ _ _ _ hT8 (by rw [e8]; rfl) ((v6.wide (m' := hd) (by simp)).step u8 (fun x hx => ?_)) (fun x hx => ?_) off9 (by omega) (by omega) (by omega) (fun T' out o e ha => .more0 p5 T' out o e he hfr no he1 hdup (by rw [e8] at ha; exact ha)) (fun z w' => by rw [e8]; exact hJ2 z w')
          · rcases List.mem_append.1 hx with q | q
            · exact .inr q
            · exact .inl (by have := nw5 x q; omega)
          · rcases List.mem_append.1 hx with q | q
            · exact .inl q
            · exact .inr (by have := nw5 x q; omega)
    have bx4 : ∀ x ∈ [b, b1, b4], x < w3.heap.size := fun x hx => by
      simp only [List.mem_cons, List.not_mem_nil, or_false] at hx
      rcases hx with e | e | e <;> subst e <;> omega
    rcases found_ents hf' with ⟨rfl, no⟩ | ⟨i, hi, ek1, rfl⟩
    · refine c24N ⟨_, rfl, kp (Upd.refl _), brf rfl ?_⟩
      exact go (fun i hi e => absurd e (no _ (List.getElem_mem hi))) _ (fun p b_6 n_8 n_9 b_7 b_8 n_10 w5 kk hh => ⟨p, b_6, n_8, n_9, b_7, b_8, n_10, rfl, kk, hh⟩)
    · obtain ⟨hdi, hC, _, _⟩ := hT3.at hi
      obtain ⟨hp, so, sd, j, os, hb', hBk, _⟩ := hC.ex
      refine c24 hBk ⟨_, rfl, kp (Upd.refl _), bre' (fun hne w4 u4 => ?_) (fun he0 => ?_)⟩
      · exact ek' _ w4 (.busy i hi he hfr ek1 hne) (v3.step0 u4 hb1)
      · exact go (fun i' hi' e => by
          have := hT.dis i' i hi' hi (e.trans ek1.symm)
          subst this
          exact he0) _ (fun p b_6 n_8 n_9 b_7 b_8 n_10 w5 kk hh => ⟨p, b_6, n_8, n_9, b_7, b_8, n_10, rfl, kk, hh⟩)
  refine brb (fun hmf => ?_) (fun hmf => ?_)
  · have hmf : v.mf = false := by simpa using hmf
    refine bre (fun e0 w3 u3 => ?_) (fun ne => ?_)
    · have U3 := v2.step0 u3 hb1
      exact k T v 1 0 s0 d0 o0 w3 hd (.plain he hmf e0) (U3.wide (by simp)) (hT.old U3) (fun x hx => .inl hx) (hO.old U3) (hD.old U3) (fun x hx => .inr hx)
    · (repeat refine And.intro rfl ?_)
      exact frag (fun h => ne h.2)
  · have hmf : v.mf = true := by simpa using hmf
    (repeat refine And.intro rfl ?_)
    exact frag (fun h => by rw [hmf] at h; cases h.1)
end
end Go.Vc.Stop
end

section
open Go Go.Vc Go.Proofs Go.ChangeShapes Go.WideShapes Go.ChangeAt Go.RowKit
set_option linter.unusedVariables false
set_option linter.unusedSimpArgs false
set_option autoImplicit false
namespace Go.Vc.Stop
section
variable {H : Type} {w : World}
theorem dp_slice2 {X : Tab} {α : Type} {c : Cod α} {P : α → DataW H → Prop} {m e : Nat} {x : SV} {d : DataW H} (hsz : (X.T e).size = c.sz)
    (hE : ∀ (m : Nat) (x : SV) (d : DataW H), Deep X w m (X.T e) x d → ∃ a : α, x.cells = c.enc a ∧ P a d) (h : Deep X w m (.slice e) x d) :
    ∃ (s : Sl) (l : List α), x = .slice s ∧ Sees c w s l ∧ s.len ≤ s.cap ∧ (d = .nil ∧ l = [] ∨ ∃ els sp, d = .slice els sp ∧ els.length = l.length ∧ ∀ i (hi : i < l.length), ∃ di, els[i]? = some di ∧ P l[i] di) := by
  cases m with
  | zero => exact h.elim
  | succ m =>
    simp only [Deep] at h
    rcases h with ⟨rfl, rfl⟩ | ⟨a, len, cap, vs, ds, rfl, rfl, hl, hm, hv, hd, h⟩
    · exact ⟨⟨none, 0, 0⟩, [], rfl, Sees.nil _ _ _ _, Nat.le_refl _, .inl ⟨rfl, rfl⟩⟩
    · have each : ∀ i (hi : i < cap), ∃ t : α, Cells w (some (a.add (i * c.sz))) (c.enc t) ∧ P t (ds[i]'(by omega)) := by
        intro i hi
        obtain ⟨h1, h2, h3⟩ := h i _ _ (List.getElem?_eq_getElem (by omega)) (List.getElem?_eq_getElem (by omega))
        obtain ⟨t, g1, g2⟩ := hE _ _ _ h3
        rw [hsz, g1] at h2
        exact ⟨t, h2, g2⟩
      let F : Fin len → α := fun i => Classical.choose (each i (by omega))
      have hF : ∀ i : Fin len, Cells w (some (a.add (i * c.sz))) (c.enc (F i)) ∧ P (F i) (ds[i.val]'(by omega)) := fun i => Classical.choose_spec (each i (by omega))
      refine ⟨⟨some a, len, cap⟩, List.ofFn F, rfl, ⟨by simp, cells_each fun i hi => ?_⟩, hl, .inr ⟨_, _, rfl, by simp; omega, fun i hi => ?_⟩⟩
      · rw [List.getElem_ofFn]
        exact (hF ⟨i, by simpa using hi⟩).1
      · have hi' : i < len := by simpa using hi
        refine ⟨ds[i]'(by omega), ?_, ?_⟩
        · rw [List.getElem?_take_of_lt hi', List.getElem?_eq_getElem (by omega)]
        · rw [List.getElem_ofFn]
          exact (hF ⟨i, hi'⟩).2
end
/-- a datagram in a slice -/
structure IpC where
  v : IpV
  so : Sl
  sd : Sl
def cIp : Cod IpC := ⟨43, fun a => [.int .i64 a.v.tos, .int .i64 a.v.id, .bool a.v.df, .bool a.v.mf, .int .i64 a.v.off, .int .i64 a.v.ttl, .int .i64 a.v.proto, .int .i64 a.v.sv] ++ (((List.range 16).map fun i => .int .u8 (a.v.sa i)) ++ (.int .i64 a.v.dv :: (((List.range 16).map fun i => .int .u8 (a.v.da i)) ++ [a.so.val, a.sd.val]))), fun _ => rfl, by
  intro x v hv
  simp only [List.mem_append, List.mem_cons, List.mem_map, List.not_mem_nil, or_false] at hv
  rcases hv with (rfl | rfl | rfl | rfl | rfl | rfl | rfl | rfl) | ⟨i, _, rfl⟩ | rfl | ⟨i, _, rfl⟩ | rfl | rfl <;> rfl⟩
theorem ip_sa (a : IpC) : ∀ i, i < 16 → (cIp.enc a)[8 + i]? = some (.int .u8 (a.v.sa i))
  | 0, _ => rfl
  | 1, _ => rfl
  | 2, _ => rfl
  | 3, _ => rfl
  | 4, _ => rfl
  | 5, _ => rfl
  | 6, _ => rfl
  | 7, _ => rfl
  | 8, _ => rfl
  | 9, _ => rfl
  | 10, _ => rfl
  | 11, _ => rfl
  | 12, _ => rfl
  | 13, _ => rfl
  | 14, _ => rfl
  | 15, _ => rfl
  | i + 16, h => absurd h (by omega)
theorem ip_da (a : IpC) : ∀ i, i < 16 → (cIp.enc a)[25 + i]? = some (.int .u8 (a.v.da i))
  | 0, _ => rfl
  | 1, _ => rfl
  | 2, _ => rfl
  | 3, _ => rfl
  | 4, _ => rfl
  | 5, _ => rfl
  | 6, _ => rfl
  | 7, _ => rfl
  | 8, _ => rfl
  | 9, _ => rfl
  | 10, _ => rfl
  | 11, _ => rfl
  | 12, _ => rfl
  | 13, _ => rfl
  | 14, _ => rfl
  | 15, _ => rfl
  | i + 16, h => absurd h (by omega)
/-- it stands -/
structure IpOk (w : World) (a : IpC) : Prop where
  ex : ∃ os, Opts w a.so a.v.opts os ∧ ∀ y ∈ os, y.2.len ≤ y.2.cap
  d : SeesB w a.sd a.v.data
  few : a.v.opts.length ≤ 4398046511000
  small : ∀ o ∈ a.v.opts, o.data.length ≤ 140737488351232
  bo : ∀ o ∈ a.v.opts, Byt o.data
  dl : a.v.data.length ≤ 140737488351232
  bd : Byt a.v.data
  cap : a.sd.len ≤ a.sd.cap
  cap2 : a.so.len ≤ a.so.cap
  key : (keyH a.v).Ok
  tos : -9223372036854775808 ≤ a.v.tos ∧ a.v.tos ≤ 9223372036854775807
  off : -9223372036854775808 ≤ a.v.off ∧ a.v.off ≤ 9223372036854775807
  ttl : -9223372036854775808 ≤ a.v.ttl ∧ a.v.ttl ≤ 9223372036854775807
theorem IpOk.old {w w1 : World} {a : IpC} {n : List Nat} (h : IpOk w a) (u : Upd [] n w w1) : IpOk w1 a := by
  obtain ⟨os, h1, h2⟩ := h.ex
  exact ⟨⟨os, h1.old u, h2⟩, h.d.old u, h.few, h.small, h.bo, h.dl, h.bd, h.cap, h.cap2, h.key, h.tos, h.off, h.ttl⟩
noncomputable def und28f : Array Field := match Try.prog.underlying 28 with | some (.struct fs) => fs | _ => #[]
theorem und28 : Try.prog.underlying 28 = some (.struct und28f) := by kernel_rfl
theorem und28t : und28f.toList.map (·.type) = [3, 3, 4, 4, 3, 3, 3, 24, 24, 25, 26] := by kernel_rfl
noncomputable def und104f : Array Field := match Try.prog.underlying 104 with | some (.struct fs) => fs | _ => #[]
theorem und104 : Try.prog.underlying 104 = some (.struct und104f) := by kernel_rfl
theorem und104t : und104f.toList.map (·.type) = [3, 26] := by kernel_rfl
theorem und25 : Try.prog.underlying 25 = some (.slice 104) := by kernel_rfl
theorem und26 : Try.prog.underlying 26 = some (.slice 5) := by kernel_rfl
theorem und29 : Try.prog.underlying 29 = some (.slice 28) := by kernel_rfl
theorem bytes104 : Try.prog.bytesOf 104 = 32 := by kernel_rfl
theorem bytes5 : Try.prog.bytesOf 5 = 1 := by kernel_rfl
section
variable {H : Type} {w : World}
set_option maxRecDepth 10000 in
/-- a datagram that comes in -/
theorem deep_ip4 {m : Nat} {x : SV} {d : DataW H} (h : Deep X w m (X.T 28) x d) :
    ∃ a : IpC, x = ipSV a.v a.so a.sd ∧ (Light Try.prog 28 d → IpOk w a) := by
  obtain ⟨fs, l, m', rfl, rfl, hh⟩ := dp_struct (b := false) (ts := [.int .i64, .int .i64, .bool, .bool, .int .i64, .int .i64, .int .i64, .struct false [.int .i64, .arr .u8 16], .struct false [.int .i64, .arr .u8 16], .slice 104, .slice 5]) (show Deep X w m (.struct false [.int .i64, .int .i64, .bool, .bool, .int .i64, .int .i64, .int .i64, .struct false [.int .i64, .arr .u8 16], .struct false [.int .i64, .arr .u8 16], .slice 104, .slice 5]) x d from h)
  obtain ⟨x1, _, d1, _, rfl, rfl, h1, hh⟩ := all3_cons hh
  obtain ⟨x2, _, d2, _, rfl, rfl, h2, hh⟩ := all3_cons hh
  obtain ⟨x3, _, d3, _, rfl, rfl, h3, hh⟩ := all3_cons hh
  obtain ⟨x4, _, d4, _, rfl, rfl, h4, hh⟩ := all3_cons hh
  obtain ⟨x5, _, d5, _, rfl, rfl, h5, hh⟩ := all3_cons hh
  obtain ⟨x6, _, d6, _, rfl, rfl, h6, hh⟩ := all3_cons hh
  obtain ⟨x7, _, d7, _, rfl, rfl, h7, hh⟩ := all3_cons hh
  obtain ⟨x8, _, d8, _, rfl, rfl, h8, hh⟩ := all3_cons hh
  obtain ⟨x9, _, d9, _, rfl, rfl, h9, hh⟩ := all3_cons hh
  obtain ⟨x10, _, d10, _, rfl, rfl, h10, hh⟩ := all3_cons hh
  obtain ⟨x11, _, d11, _, rfl, rfl, h11, hh⟩ := all3_cons hh
  obtain ⟨rfl, rfl⟩ := all3_nil hh
  obtain ⟨n1, rfl, _, i1⟩ := dp_int h1
  obtain ⟨n2, rfl, _, i2⟩ := dp_int h2
  obtain ⟨n3, rfl, _⟩ := dp_bool h3
  obtain ⟨n4, rfl, _⟩ := dp_bool h4
  obtain ⟨n5, rfl, _, i5⟩ := dp_int h5
  obtain ⟨n6, rfl, _, i6⟩ := dp_int h6
  obtain ⟨n7, rfl, _, i7⟩ := dp_int h7
  obtain ⟨v8, a8, rfl, r8', r8⟩ := dp_ip h8
  obtain ⟨v9, a9, rfl, r9', r9⟩ := dp_ip h9
  obtain ⟨so, lo, os, rfl, ho, hob, hoc, hsc, hdo⟩ := dp_opts (X := X) (t := 25) (e := 104) (t2 := 26) (e2 := 5) rfl rfl rfl rfl (show Deep X w m' (X.T 25) x10 d10 from h10)
  obtain ⟨sd, data, rfl, hd, hdb, hdc, hsl⟩ := deep_bytes' (X := X) (t := 26) (e := 5) rfl rfl (show Deep X w m' (X.T 26) x11 d11 from h11)
  have j1 := wf_i64 i1
  have j2 := wf_i64 i2
  have j5 := wf_i64 i5
  have j6 := wf_i64 i6
  have j7 := wf_i64 i7
  refine ⟨⟨⟨n1, n2, n3, n4, n5, n6, n7, v8, a8, v9, a9, lo, data⟩, so, sd⟩, rfl, fun hL => ?_⟩
  have h := light_struct und28 und28t hL
  have g := (light_head (light_head (light_head (light_head (light_head (light_head (light_head (light_head (light_head h).2).2).2).2).2).2).2).2).2
  have g9 := light_head g
  have g10 := light_head g9.2
  have q := light_opts und25 bytes104 und104 und104t und26 bytes5 g9.1 hdo
  have q2 := light_len und26 bytes5 g10.1 hsl
  exact ⟨⟨os, ho, hoc⟩, hd, q.1, q.2, hob, q2, hdb, hdc, hsc, ⟨r8', r8, r9', r9, j7, j2⟩, j1, j5, j6⟩
theorem cells_ip (a : IpC) : (ipSV a.v a.so a.sd).cells = cIp.enc a := by simp [SV.cells, SV.cellsL, cIp]
/-- datagrams that come in -/
theorem deep_ips {m : Nat} {x : SV} {d : DataW H} (h : Deep X w m (X.T 29) x d) (hL : Light Try.prog 29 d) :
    ∃ (s : Sl) (l : List IpC), x = .slice s ∧ Sees cIp w s l ∧ s.len ≤ s.cap ∧ ∀ a ∈ l, IpOk w a := by
  obtain ⟨s, l, rfl, h1, h2, h3⟩ := dp_slice2 (X := X) (c := cIp) (e := 28) (P := fun a d => Light Try.prog 28 d → IpOk w a) rfl (fun m x d hh => by
    obtain ⟨a, rfl, ha⟩ := deep_ip4 hh
    exact ⟨a, cells_ip a, ha⟩) (show Deep X w m (.slice 28) x d from h)
  refine ⟨s, l, rfl, h1, h2, fun a ha => ?_⟩
  obtain ⟨i, hi, rfl⟩ := List.getElem_of_mem ha
  rcases h3 with ⟨_, rfl⟩ | ⟨els, sp, rfl, e1, e2⟩
  · simp at hi
  · obtain ⟨di, g1, g2⟩ := e2 i hi
    exact g2 ((light_slice und29 rfl hL).2 _ _ g1)
end
end Go.Vc.Stop
end

section
open Go Go.Vc Go.Proofs
set_option linter.unusedVariables false
set_option linter.unusedSimpArgs false
set_option autoImplicit false
namespace Go.Vc.Stop
theorem iterL_len {w : World} {it r : Nat} {l : List (Value × SV)} {seen : List Nat} (h : IterL w it r l seen) : ∃ c S, w.heap[it]? = some (.mapIter (some r) c S c) ∧ S.size = seen.length ∧ ∀ i ∈ seen, i < l.length := by
  obtain ⟨es, c, S, h1, h2, ⟨h3, _⟩, h4, h5⟩ := h
  have hl : es.size = l.length := by have := congrArg List.length h3; simpa using this
  exact ⟨c, S, h1, by have := congrArg List.length h5; simpa using this, fun i hi => by have := h4 i hi; omega⟩
/-- how many are still to come -/
noncomputable def leftM (n b : Nat) (w : World) : Nat := match w.heap[b]? with | some (.mapIter _ _ S _) => n - S.size | _ => 0
theorem leftM_eq {n b r : Nat} {w : World} {l : List (Value × SV)} {seen : List Nat} (h : IterL w b r l seen) : leftM n b w = n - seen.length := by
  obtain ⟨c, S, h1, h2, _⟩ := iterL_len h
  unfold leftM
  rw [h1, ← h2]
def frs : List Cv → Int
  | [] => 0
  | c :: _ => c.frags
section
variable {N t : Nat} {w : World} {R : SV → World → Prop} {T : Tv} {hd : List Nat}
theorem c8 (hT : TbAt N w t T hd) (h1 : T.cs.length ≤ 1) (hf : ∀ c ∈ T.cs, -1000000 ≤ c.frags ∧ c.frags ≤ 1000000) (k : ∀ w1, Upd [] [] w w1 → R (.int .i64 (frs T.cs)) w1) : Ret Try.prog 8 [.ptr (some ⟨t, 0, none⟩)] w R := by
  refine f8_of _ _ _ ?_
  unfold vc8
  dsimp only [deref]
  obtain ⟨mb, bT, mT, tin, mbin, tne, _⟩ := hT.more
  have lt := hT.lt
  refine ⟨_, bT.at_ 3 (v := .map (some mb)) rfl, ?_⟩
  dsimp only [derefN]
  refine ⟨und56, _, mT, fun b w1 u1 hI => ?_⟩
  have nb := u1.new (b := b) (by simp)
  have el : (ents T.cs).length = T.cs.length := ents_len _
  refine ⟨fun n w' => ∃ seen, Upd [] [] w w' ∧ IterL w' b mb (ents T.cs) seen ∧ ((seen = [] ∧ n = 0) ∨ (seen = [0] ∧ n = frs T.cs)), fun n w' => leftM 1 b w', ⟨[], u1.forget, hI, .inl ⟨rfl, rfl⟩⟩, ?_⟩
  rintro n w2 ⟨seen, U2, hI2, hs⟩
  refine ⟨rfl, by simp, mb, _, seen, hI2, fun hall => ?_, fun i hi hns w3 u3 hI3 kk vv => ⟨rfl, ?_⟩⟩
  · rcases hs with ⟨rfl, rfl⟩ | ⟨rfl, rfl⟩
    · have e : T.cs = [] := by
        cases h : T.cs with
        | nil => rfl
        | cons c r => exfalso; have := hall 0 (by rw [el, h]; simp); simp at this
      have := k w2 U2
      rw [e] at this
      exact this
    · exact k w2 U2
  · rw [el] at hi
    have e0 : i = 0 := by omega
    subst e0
    have hseen : seen = [] := by
      rcases hs with ⟨e, _⟩ | ⟨rfl, _⟩
      · exact e
      · exact absurd (by simp) hns
    subst hseen
    have hn0 : n = 0 := by
      rcases hs with ⟨_, e⟩ | ⟨e, _⟩
      · exact e
      · cases e
    subst hn0
    cases hcs : T.cs with
    | nil => rw [hcs] at hi; simp at hi
    | cons c r =>
      have U3 : Upd [] [] w w3 := U2.step0 u3 (fun x hx => by simp at hx; omega)
      have hi0 : 0 < T.cs.length := by rw [hcs]; simp
      obtain ⟨hdi, hC, _, _⟩ := (hT.old U3).at hi0
      have ec : T.cs[0] = c := by simp [hcs]
      rw [ec] at hC
      obtain ⟨hp, so, sd, j, os, hb', hBk, _⟩ := hC.ex
      have hfc := hf c (by rw [hcs]; simp)
      rw [hcs] at hI3
      refine ⟨mb, ents (c :: r), 0, [], (kSV c.key).enc, hI3, some ⟨c.p, 0, none⟩, by simp [EntAt, ents], ?_⟩
      dsimp only [deref]
      refine ⟨c.frags, hBk.at_ 41 (v := .int .i64 c.frags) rfl, ⟨[0], U3, hI3, .inr ⟨rfl, ?_⟩⟩, ?_⟩
      · rw [Int.zero_add, wr_i64 (by omega) (by omega)]
        rfl
      · rw [hcs] at hI2
        rw [leftM_eq hI3, leftM_eq hI2]
        simp
end
end Go.Vc.Stop
end

section
open Go Go.Vc Go.Vc.Stop Go.Proofs
set_option maxRecDepth 100000
set_option linter.unusedVariables false
namespace Go.Vc.Stop
def vc9 (s : Option Addr) (off : Int) (data : Sl) (more : Bool) (w : World) (R : SV → World → Prop) : Prop :=
  ∃ (I : World → Prop),
    ∃ (M : World → Nat),
      I w ∧
        ∀ (w1 : World),
          I w1 →
            deref s fun (a : Addr) =>
              ∃ (s_1 : Sl),
                World.cell? w1 a = some (Sl.val s_1) ∧
                  Br (decide ((↑s_1.2 : Int) < wr IntKind.i64 (off + (↑data.2 : Int))))
                    (deref s fun (a : Addr) =>
                      ∃ (s_2 : Sl),
                        World.cell? w1 a = some (Sl.val s_2) ∧
                          ∀ (b : Nat) (w1_1 : World),
                            Upd [] [b] w1 w1_1 →
                              (World.heap w1_1)[b]? = some (Obj.cells { toList := SV.cells (SV.struct [SV.int IntKind.u8 0]) } 5) →
                                Vc.Append 5 1 1 s_2 { ptr := some { block := b, off := 0 }, len := 1, cap := 1 } [] w1_1 fun (r : Sl) (w : World) =>
                                  deref s fun (a : Addr) =>
                                    Store w a (SV.cells (SV.slice r)) [] fun (w1_2 : World) =>
                                      deref s fun (a : Addr) =>
                                        ∃ (s_3 : Sl),
                                          World.cell? w1_2 (Addr.add a 1) = some (Sl.val s_3) ∧
                                            ∀ (b : Nat) (w1_3 : World),
                                              Upd [] [b] w1_2 w1_3 →
                                                (World.heap w1_3)[b]? = some (Obj.cells { toList := SV.cells (SV.struct [SV.bool false]) } 4) →
                                                  Vc.Append 4 1 1 s_3 { ptr := some { block := b, off := 0 }, len := 1, cap := 1 } [] w1_3 fun (r : Sl) (w : World) =>
                                                    deref s fun (a : Addr) => Store w (Addr.add a 1) (SV.cells (SV.slice r)) [] fun (w1_4 : World) => I w1_4 ∧ M w1_4 < M w1)
                    (∃ (I : Int → World → Prop),
                      ∃ (M : Int → World → Nat),
                        I 0 w1 ∧
                          ∀ (n : Int) (w1 : World),
                            I n w1 →
                              Br (decide (n < (↑data.2 : Int)))
                                (∀ (J : World → Prop),
                                  (∀ (w1_1 : World), I (wr IntKind.i64 (n + 1)) w1_1 ∧ M (wr IntKind.i64 (n + 1)) w1_1 < M n w1 → J w1_1) →
                                    deref s fun (a : Addr) =>
                                      ∃ (s_2 : Sl),
                                        World.cell? w1 (Addr.add a 1) = some (Sl.val s_2) ∧
                                          Need (decide (0 ≤ wr IntKind.i64 (off + n)) && decide (wr IntKind.i64 (off + n) < (↑s_2.2 : Int)) && Option.isSome s_2.1)
                                            (∃ (b : Bool),
                                              World.cell? w1 (Sl.at s_2 1 (Int.toNat (wr IntKind.i64 (off + n)))) = some (Value.bool b) ∧
                                                Br (!b)
                                                  (deref s fun (a : Addr) =>
                                                    ∃ (s_3 : Sl),
                                                      World.cell? w1 a = some (Sl.val s_3) ∧
                                                        Need (decide (0 ≤ n) && decide (n < (↑data.2 : Int)) && Option.isSome data.1)
                                                          (∃ (n_1 : Int),
                                                            World.cell? w1 (Sl.at data 1 (Int.toNat n)) = some (Value.int IntKind.u8 n_1) ∧
                                                              Need
                                                                (decide (0 ≤ wr IntKind.i64 (off + n)) && decide (wr IntKind.i64 (off + n) < (↑s_3.2 : Int)) && Option.isSome s_3.1)
                                                                (∀ (w1_1 : World),
                                                                  Upd [] [] w1 w1_1 →
                                                                    Store w1_1 (Sl.at s_3 1 (Int.toNat (wr IntKind.i64 (off + n)))) (SV.cells (SV.int IntKind.u8 n_1)) []
                                                                      fun (w1 : World) =>
                                                                      deref s fun (a : Addr) =>
                                                                        ∃ (s : Sl),
                                                                          World.cell? w1 (Addr.add a 1) = some (Sl.val s) ∧
                                                                            Need
                                                                              (decide (0 ≤ wr IntKind.i64 (off + n)) && decide (wr IntKind.i64 (off + n) < (↑s.2 : Int)) &&
                                                                                Option.isSome s.1)
                                                                              (Store w1 (Sl.at s 1 (Int.toNat (wr IntKind.i64 (off + n)))) (SV.cells (SV.bool true)) []
                                                                                fun (w1 : World) => J w1))))
                                                  (J w1)))
                                (Br (!more)
                                  (deref s fun (a : Addr) =>
                                    ∃ (n : Int),
                                      World.cell? w1 (Addr.add a 2) = some (Value.int IntKind.i64 n) ∧
                                        Br (decide (n < 0))
                                          (deref s fun (a : Addr) =>
                                            Store w1 (Addr.add a 2) (SV.cells (SV.int IntKind.i64 (wr IntKind.i64 (off + (↑data.2 : Int))))) [] fun (w1 : World) =>
                                              R (SV.tuple []) w1)
                                          (R (SV.tuple []) w1))
                                  (R (SV.tuple []) w1)))
theorem f9_of (s : Option Addr) (off : Int) (data : Sl) (more : Bool) (w : World) (R : SV → World → Prop) (hV : vc9 s off data more w R) : Ret Try.prog 9 [.ptr s, .int .i64 off, .slice data, .bool more] w R :=
  have e : vc9 s off data more w R = fnVC X Try.f9 a9 [.ptr s, .int .i64 off, .slice data, .bool more] w R := by kernel_rfl
  fnVC_sound X_ok (n := a9) (e ▸ hV) (by kernel_rfl) (by kernel_rfl) rfl rfl

def vc10 (s : Option Addr) (w : World) (R : SV → World → Prop) : Prop :=
  ∀ (J : World → Prop),
    (∀ (w1 : World),
        (∃ (I : Int → World → Prop),
            ∃ (M : Int → World → Nat),
              I 0 w1 ∧
                ∀ (n : Int) (w1 : World),
                  I n w1 →
                    deref s fun (a : Addr) =>
                      ∃ (n_1 : Int),
                        World.cell? w1 (Addr.add a 2) = some (Value.int IntKind.i64 n_1) ∧
                          Br (decide (n < n_1))
                            (deref s fun (a : Addr) =>
                              ∃ (s : Sl),
                                World.cell? w1 (Addr.add a 1) = some (Sl.val s) ∧
                                  Need (decide (0 ≤ n) && decide (n < (↑s.2 : Int)) && Option.isSome s.1)
                                    (∃ (b : Bool),
                                      World.cell? w1 (Sl.at s 1 (Int.toNat n)) = some (Value.bool b) ∧
                                        Br (!b) (R (SV.bool false) w1) (I (wr IntKind.i64 (n + 1)) w1 ∧ M (wr IntKind.i64 (n + 1)) w1 < M n w1)))
                            (R (SV.bool true) w1)) →
          J w1) →
      deref s fun (a : Addr) =>
        ∃ (n : Int),
          World.cell? w (Addr.add a 2) = some (Value.int IntKind.i64 n) ∧
            Br (decide (n < 0)) (∀ (w1 : World), Upd [] [] w w1 → R (SV.bool false) w1)
              (deref s fun (a : Addr) =>
                ∃ (s_1 : Sl),
                  World.cell? w a = some (Sl.val s_1) ∧
                    deref s fun (a : Addr) =>
                      ∃ (n : Int),
                        World.cell? w (Addr.add a 2) = some (Value.int IntKind.i64 n) ∧
                          Br (decide ((↑s_1.2 : Int) < n)) (∀ (w1 : World), Upd [] [] w w1 → R (SV.bool false) w1) (∀ (w1 : World), Upd [] [] w w1 → J w1))
theorem f10_of (s : Option Addr) (w : World) (R : SV → World → Prop) (hV : vc10 s w R) : Ret Try.prog 10 [.ptr s] w R :=
  have e : vc10 s w R = fnVC X Try.f10 a10 [.ptr s] w R := by kernel_rfl
  fnVC_sound X_ok (n := a10) (e ▸ hV) (by kernel_rfl) (by kernel_rfl) rfl rfl

def vc11 (a : Sl) (b : Sl) (w : World) (R : SV → World → Prop) : Prop :=
  BytesStr w a fun (b_1 : ByteArray) => BytesStr w b fun (b : ByteArray) => R (SV.bool (b_1 == b)) w
theorem f11_of (a : Sl) (b : Sl) (w : World) (R : SV → World → Prop) (hV : vc11 a b w R) : Ret Try.prog 11 [.slice a, .slice b] w R :=
  have e : vc11 a b w R = fnVC X Try.f11 a11 [.slice a, .slice b] w R := by kernel_rfl
  fnVC_sound X_ok (n := a11) (e ▸ hV) (by kernel_rfl) (by kernel_rfl) rfl rfl

def vc3 (key_0 : Int) (key_1 : Int) (key_2 : Bool) (key_3 : Bool) (key_4 : Int) (key_5 : Int) (key_6 : Int) (key_7_0 : Int) (key_7_1 : Nat → Int) (key_8_0
  : Int) (key_8_1 : Nat → Int) (key_9 : Sl) (key_10 : Sl) (pieces : Sl) (w : World) (R : SV → World → Prop) : Prop := ∀ (b : Nat) (w1 : World), Upd [] [b]
  w w1 → Ret Try.prog 5 [SV.int IntKind.i64 2, SV.int IntKind.i64 1048576] w1 fun (r : SV) (w1_1 : World) => ∃ (p : Option Addr), ∃ (n : Int), r = SV.tuple
  [SV.ptr p, SV.int IntKind.i64 n] ∧ Keeps [b] w1 w1_1 ∧ ∀ (J : World → Prop), (∀ (w1 : World), (∀ (b_1 : Nat) (w1_2 : World), Upd [] [b_1] w1 w1_2 → (World.heap
  w1_2)[b_1]? = some (Obj.cells { toList := SV.cells (SV.struct [SV.slice { ptr := none, len := 0, cap := 0 }, SV.slice { ptr := none, len := 0, cap := 0 }, SV.int IntKind.i64 (-1)]) }
  37) → Off b_1 [b] → ∃ (I : Bool → Int → World → Prop), ∃ (M : Bool → Int → World → Nat), I false 0 w1_2 ∧ ∀ (b_2 : Bool) (n : Int) (w1 : World), I b_2 n
  w1 → ∀ (J : World → Prop), (∀ (w1_3 : World), (∀ (J : Bool → World → Prop), (∀ (b_3 : Bool) (w1_4 : World), some (SV.box b 28 (SV.struct [SV.int IntKind.i64
  key_0, SV.int IntKind.i64 key_1, SV.bool key_2, SV.bool key_3, SV.int IntKind.i64 key_4, SV.int IntKind.i64 key_5, SV.int IntKind.i64 key_6, SV.struct [SV.int
  IntKind.i64 key_7_0, SV.arr IntKind.u8 16 key_7_1], SV.struct [SV.int IntKind.i64 key_8_0, SV.arr IntKind.u8 16 key_8_1], SV.slice key_9, SV.slice key_10]))
  = some (SV.box b 28 (SV.struct [SV.int IntKind.i64 key_0, SV.int IntKind.i64 key_1, SV.bool key_2, SV.bool key_3, SV.int IntKind.i64 key_4, SV.int IntKind.i64
  key_5, SV.int IntKind.i64 key_6, SV.struct [SV.int IntKind.i64 key_7_0, SV.arr IntKind.u8 16 key_7_1], SV.struct [SV.int IntKind.i64 key_8_0, SV.arr IntKind.u8
  16 key_8_1], SV.slice key_9, SV.slice key_10])) ∧ I b_3 (wr IntKind.i64 (n + 1)) w1_4 ∧ M b_3 (wr IntKind.i64 (n + 1)) w1_4 < M b_2 n w1 → J b_3 w1_4) →
  Need (decide (0 ≤ n) && decide (n < (↑pieces.2 : Int)) && Option.isSome pieces.1) (∃ (n_1 : Int), World.cell? w1_3 (Sl.at pieces 43 (Int.toNat n)) = some
  (Value.int IntKind.i64 n_1) ∧ ∃ (n_2 : Int), World.cell? w1_3 (Addr.add (Sl.at pieces 43 (Int.toNat n)) 1) = some (Value.int IntKind.i64 n_2) ∧ ∃ (b_3 :
  Bool), World.cell? w1_3 (Addr.add (Sl.at pieces 43 (Int.toNat n)) 2) = some (Value.bool b_3) ∧ ∃ (b_4 : Bool), World.cell? w1_3 (Addr.add (Sl.at pieces
  43 (Int.toNat n)) 3) = some (Value.bool b_4) ∧ ∃ (n_3 : Int), World.cell? w1_3 (Addr.add (Sl.at pieces 43 (Int.toNat n)) 4) = some (Value.int IntKind.i64
  n_3) ∧ ∃ (n_4 : Int), World.cell? w1_3 (Addr.add (Sl.at pieces 43 (Int.toNat n)) 5) = some (Value.int IntKind.i64 n_4) ∧ ∃ (n_5 : Int), World.cell? w1_3
  (Addr.add (Sl.at pieces 43 (Int.toNat n)) 6) = some (Value.int IntKind.i64 n_5) ∧ ∃ (n_6 : Int), World.cell? w1_3 (Addr.add (Sl.at pieces 43 (Int.toNat
  n)) 7) = some (Value.int IntKind.i64 n_6) ∧ ∃ (f : Nat → Int), (∀ (i : Nat), i < 16 → World.cell? w1_3 (Addr.add (Sl.at pieces 43 (Int.toNat n)) (8 + i))
  = some (Value.int IntKind.u8 (f i))) ∧ ∃ (n_7 : Int), World.cell? w1_3 (Addr.add (Sl.at pieces 43 (Int.toNat n)) 24) = some (Value.int IntKind.i64 n_7)
  ∧ ∃ (f : Nat → Int), (∀ (i : Nat), i < 16 → World.cell? w1_3 (Addr.add (Sl.at pieces 43 (Int.toNat n)) (25 + i)) = some (Value.int IntKind.u8 (f i))) ∧
  ∃ (s : Sl), World.cell? w1_3 (Addr.add (Sl.at pieces 43 (Int.toNat n)) 41) = some (Sl.val s) ∧ ∃ (s_1 : Sl), World.cell? w1_3 (Addr.add (Sl.at pieces 43
  (Int.toNat n)) 42) = some (Sl.val s_1) ∧ ∀ (b_5 : Nat) (J_1 : World → Prop), (∀ (w1 : World), (Ret Try.prog 7 [SV.ptr p, SV.struct [SV.int IntKind.i64 n_1,
  SV.int IntKind.i64 key_1, SV.bool b_3, SV.bool b_4, SV.int IntKind.i64 n_3, SV.int IntKind.i64 n_4, SV.int IntKind.i64 key_6, SV.struct [SV.int IntKind.i64
  key_7_0, SV.arr IntKind.u8 16 key_7_1], SV.struct [SV.int IntKind.i64 key_8_0, SV.arr IntKind.u8 16 key_8_1], SV.slice s, SV.slice s_1]] w1 fun (r : SV)
  (w1_4 : World) => ∃ (n : Int), ∃ (n_8 : Int), ∃ (b_6 : Bool), ∃ (b_7 : Bool), ∃ (n_9 : Int), ∃ (n_10 : Int), ∃ (n_11 : Int), ∃ (n_12 : Int), ∃ (f : Nat
  → Int), ∃ (n_13 : Int), ∃ (f_1 : Nat → Int), ∃ (s_2 : Sl), ∃ (s_3 : Sl), ∃ (n_14 : Int), ∃ (n_15 : Int), r = SV.tuple [SV.struct [SV.int IntKind.i64 n,
  SV.int IntKind.i64 n_8, SV.bool b_6, SV.bool b_7, SV.int IntKind.i64 n_9, SV.int IntKind.i64 n_10, SV.int IntKind.i64 n_11, SV.struct [SV.int IntKind.i64
  n_12, SV.arr IntKind.u8 16 f], SV.struct [SV.int IntKind.i64 n_13, SV.arr IntKind.u8 16 f_1], SV.slice s_2, SV.slice s_3], SV.int IntKind.i64 n_14, SV.int
  IntKind.i64 n_15] ∧ Keeps [b, b_5] w1 w1_4 ∧ ∀ (b_8 : Nat), Br b_2 (Br (n_15 != 125) (∀ (w1 : World), Upd [] [b_8] w1_4 w1 → R (SV.bool false) w1) (∀ (w1
  : World), Upd [] [b_8] w1_4 w1 → some (SV.box b 28 (SV.struct [SV.int IntKind.i64 key_0, SV.int IntKind.i64 key_1, SV.bool key_2, SV.bool key_3, SV.int
  IntKind.i64 key_4, SV.int IntKind.i64 key_5, SV.int IntKind.i64 key_6, SV.struct [SV.int IntKind.i64 key_7_0, SV.arr IntKind.u8 16 key_7_1], SV.struct [SV.int
  IntKind.i64 key_8_0, SV.arr IntKind.u8 16 key_8_1], SV.slice key_9, SV.slice key_10])) = some (SV.box b 28 (SV.struct [SV.int IntKind.i64 key_0, SV.int
  IntKind.i64 key_1, SV.bool key_2, SV.bool key_3, SV.int IntKind.i64 key_4, SV.int IntKind.i64 key_5, SV.int IntKind.i64 key_6, SV.struct [SV.int IntKind.i64
  key_7_0, SV.arr IntKind.u8 16 key_7_1], SV.struct [SV.int IntKind.i64 key_8_0, SV.arr IntKind.u8 16 key_8_1], SV.slice key_9, SV.slice key_10])) ∧ J b_2
  w1)) (Br (n_15 != 0) (∀ (J_2 : World → Prop), (∀ (w1 : World), Br (n_15 == 123) (∃ (n : Int), World.cell? w1 (Addr.add { block := b_1, off := 0 } 2) = some
  (Value.int IntKind.i64 n) ∧ Br (decide (n ≥ 0)) (Ret Try.prog 8 [SV.ptr p] w1 fun (r : SV) (w1_5 : World) => ∃ (n : Int), r = SV.int IntKind.i64 n ∧ Keeps
  [b, b_5, b_8] w1 w1_5 ∧ Br (n == 0) (R (SV.bool false) w1_5) (some (SV.box b 28 (SV.struct [SV.int IntKind.i64 key_0, SV.int IntKind.i64 key_1, SV.bool
  key_2, SV.bool key_3, SV.int IntKind.i64 key_4, SV.int IntKind.i64 key_5, SV.int IntKind.i64 key_6, SV.struct [SV.int IntKind.i64 key_7_0, SV.arr IntKind.u8
  16 key_7_1], SV.struct [SV.int IntKind.i64 key_8_0, SV.arr IntKind.u8 16 key_8_1], SV.slice key_9, SV.slice key_10])) = some (SV.box b 28 (SV.struct [SV.int
  IntKind.i64 key_0, SV.int IntKind.i64 key_1, SV.bool key_2, SV.bool key_3, SV.int IntKind.i64 key_4, SV.int IntKind.i64 key_5, SV.int IntKind.i64 key_6,
  SV.struct [SV.int IntKind.i64 key_7_0, SV.arr IntKind.u8 16 key_7_1], SV.struct [SV.int IntKind.i64 key_8_0, SV.arr IntKind.u8 16 key_8_1], SV.slice key_9,
  SV.slice key_10])) ∧ J b_2 w1_5)) (some (SV.box b 28 (SV.struct [SV.int IntKind.i64 key_0, SV.int IntKind.i64 key_1, SV.bool key_2, SV.bool key_3, SV.int
  IntKind.i64 key_4, SV.int IntKind.i64 key_5, SV.int IntKind.i64 key_6, SV.struct [SV.int IntKind.i64 key_7_0, SV.arr IntKind.u8 16 key_7_1], SV.struct [SV.int
  IntKind.i64 key_8_0, SV.arr IntKind.u8 16 key_8_1], SV.slice key_9, SV.slice key_10])) = some (SV.box b 28 (SV.struct [SV.int IntKind.i64 key_0, SV.int
  IntKind.i64 key_1, SV.bool key_2, SV.bool key_3, SV.int IntKind.i64 key_4, SV.int IntKind.i64 key_5, SV.int IntKind.i64 key_6, SV.struct [SV.int IntKind.i64
  key_7_0, SV.arr IntKind.u8 16 key_7_1], SV.struct [SV.int IntKind.i64 key_8_0, SV.arr IntKind.u8 16 key_8_1], SV.slice key_9, SV.slice key_10])) ∧ J b_2
  w1)) (some (SV.box b 28 (SV.struct [SV.int IntKind.i64 key_0, SV.int IntKind.i64 key_1, SV.bool key_2, SV.bool key_3, SV.int IntKind.i64 key_4, SV.int IntKind.i64
  key_5, SV.int IntKind.i64 key_6, SV.struct [SV.int IntKind.i64 key_7_0, SV.arr IntKind.u8 16 key_7_1], SV.struct [SV.int IntKind.i64 key_8_0, SV.arr IntKind.u8
  16 key_8_1], SV.slice key_9, SV.slice key_10])) = some (SV.box b 28 (SV.struct [SV.int IntKind.i64 key_0, SV.int IntKind.i64 key_1, SV.bool key_2, SV.bool
  key_3, SV.int IntKind.i64 key_4, SV.int IntKind.i64 key_5, SV.int IntKind.i64 key_6, SV.struct [SV.int IntKind.i64 key_7_0, SV.arr IntKind.u8 16 key_7_1],
  SV.struct [SV.int IntKind.i64 key_8_0, SV.arr IntKind.u8 16 key_8_1], SV.slice key_9, SV.slice key_10])) ∧ J b_2 w1) → J_2 w1) → ∃ (s_4 : Sl), World.cell?
  w1_4 { block := b_1, off := 0 } = some (Sl.val s_4) ∧ Br ((↑s_4.2 : Int) == 0) (Br (decide ((↑s_1.2 : Int) > 0)) (Br (decide (wr IntKind.i64 (n_3 + (↑s_1.2
  : Int)) ≤ 65515)) (∀ (w1 : World), Upd [] [b_8] w1_4 w1 → R (SV.bool false) w1) (∀ (w1 : World), Upd [] [b_8] w1_4 w1 → some (SV.box b 28 (SV.struct [SV.int
  IntKind.i64 key_0, SV.int IntKind.i64 key_1, SV.bool key_2, SV.bool key_3, SV.int IntKind.i64 key_4, SV.int IntKind.i64 key_5, SV.int IntKind.i64 key_6,
  SV.struct [SV.int IntKind.i64 key_7_0, SV.arr IntKind.u8 16 key_7_1], SV.struct [SV.int IntKind.i64 key_8_0, SV.arr IntKind.u8 16 key_8_1], SV.slice key_9,
  SV.slice key_10])) = some (SV.box b 28 (SV.struct [SV.int IntKind.i64 key_0, SV.int IntKind.i64 key_1, SV.bool key_2, SV.bool key_3, SV.int IntKind.i64
  key_4, SV.int IntKind.i64 key_5, SV.int IntKind.i64 key_6, SV.struct [SV.int IntKind.i64 key_7_0, SV.arr IntKind.u8 16 key_7_1], SV.struct [SV.int IntKind.i64
  key_8_0, SV.arr IntKind.u8 16 key_8_1], SV.slice key_9, SV.slice key_10])) ∧ some (SV.box b_5 28 (SV.struct [SV.int IntKind.i64 n_1, SV.int IntKind.i64
  key_1, SV.bool b_3, SV.bool b_4, SV.int IntKind.i64 n_3, SV.int IntKind.i64 n_4, SV.int IntKind.i64 key_6, SV.struct [SV.int IntKind.i64 key_7_0, SV.arr
  IntKind.u8 16 key_7_1], SV.struct [SV.int IntKind.i64 key_8_0, SV.arr IntKind.u8 16 key_8_1], SV.slice s, SV.slice s_1])) = some (SV.box b_5 28 (SV.struct
  [SV.int IntKind.i64 n_1, SV.int IntKind.i64 key_1, SV.bool b_3, SV.bool b_4, SV.int IntKind.i64 n_3, SV.int IntKind.i64 n_4, SV.int IntKind.i64 key_6, SV.struct
  [SV.int IntKind.i64 key_7_0, SV.arr IntKind.u8 16 key_7_1], SV.struct [SV.int IntKind.i64 key_8_0, SV.arr IntKind.u8 16 key_8_1], SV.slice s, SV.slice s_1]))
  ∧ some (SV.box b_8 28 (SV.struct [SV.int IntKind.i64 n, SV.int IntKind.i64 n_8, SV.bool b_6, SV.bool b_7, SV.int IntKind.i64 n_9, SV.int IntKind.i64 n_10,
  SV.int IntKind.i64 n_11, SV.struct [SV.int IntKind.i64 n_12, SV.arr IntKind.u8 16 f], SV.struct [SV.int IntKind.i64 n_13, SV.arr IntKind.u8 16 f_1], SV.slice
  s_2, SV.slice s_3])) = some (SV.box b_8 28 (SV.struct [SV.int IntKind.i64 n, SV.int IntKind.i64 n_8, SV.bool b_6, SV.bool b_7, SV.int IntKind.i64 n_9, SV.int
  IntKind.i64 n_10, SV.int IntKind.i64 n_11, SV.struct [SV.int IntKind.i64 n_12, SV.arr IntKind.u8 16 f], SV.struct [SV.int IntKind.i64 n_13, SV.arr IntKind.u8
  16 f_1], SV.slice s_2, SV.slice s_3])) ∧ J_2 w1)) (∀ (w1 : World), Upd [] [b_8] w1_4 w1 → some (SV.box b 28 (SV.struct [SV.int IntKind.i64 key_0, SV.int
  IntKind.i64 key_1, SV.bool key_2, SV.bool key_3, SV.int IntKind.i64 key_4, SV.int IntKind.i64 key_5, SV.int IntKind.i64 key_6, SV.struct [SV.int IntKind.i64
  key_7_0, SV.arr IntKind.u8 16 key_7_1], SV.struct [SV.int IntKind.i64 key_8_0, SV.arr IntKind.u8 16 key_8_1], SV.slice key_9, SV.slice key_10])) = some
  (SV.box b 28 (SV.struct [SV.int IntKind.i64 key_0, SV.int IntKind.i64 key_1, SV.bool key_2, SV.bool key_3, SV.int IntKind.i64 key_4, SV.int IntKind.i64
  key_5, SV.int IntKind.i64 key_6, SV.struct [SV.int IntKind.i64 key_7_0, SV.arr IntKind.u8 16 key_7_1], SV.struct [SV.int IntKind.i64 key_8_0, SV.arr IntKind.u8
  16 key_8_1], SV.slice key_9, SV.slice key_10])) ∧ some (SV.box b_5 28 (SV.struct [SV.int IntKind.i64 n_1, SV.int IntKind.i64 key_1, SV.bool b_3, SV.bool
  b_4, SV.int IntKind.i64 n_3, SV.int IntKind.i64 n_4, SV.int IntKind.i64 key_6, SV.struct [SV.int IntKind.i64 key_7_0, SV.arr IntKind.u8 16 key_7_1], SV.struct
  [SV.int IntKind.i64 key_8_0, SV.arr IntKind.u8 16 key_8_1], SV.slice s, SV.slice s_1])) = some (SV.box b_5 28 (SV.struct [SV.int IntKind.i64 n_1, SV.int
  IntKind.i64 key_1, SV.bool b_3, SV.bool b_4, SV.int IntKind.i64 n_3, SV.int IntKind.i64 n_4, SV.int IntKind.i64 key_6, SV.struct [SV.int IntKind.i64 key_7_0,
  SV.arr IntKind.u8 16 key_7_1], SV.struct [SV.int IntKind.i64 key_8_0, SV.arr IntKind.u8 16 key_8_1], SV.slice s, SV.slice s_1])) ∧ some (SV.box b_8 28 (SV.struct
  [SV.int IntKind.i64 n, SV.int IntKind.i64 n_8, SV.bool b_6, SV.bool b_7, SV.int IntKind.i64 n_9, SV.int IntKind.i64 n_10, SV.int IntKind.i64 n_11, SV.struct
  [SV.int IntKind.i64 n_12, SV.arr IntKind.u8 16 f], SV.struct [SV.int IntKind.i64 n_13, SV.arr IntKind.u8 16 f_1], SV.slice s_2, SV.slice s_3])) = some (SV.box
  b_8 28 (SV.struct [SV.int IntKind.i64 n, SV.int IntKind.i64 n_8, SV.bool b_6, SV.bool b_7, SV.int IntKind.i64 n_9, SV.int IntKind.i64 n_10, SV.int IntKind.i64
  n_11, SV.struct [SV.int IntKind.i64 n_12, SV.arr IntKind.u8 16 f], SV.struct [SV.int IntKind.i64 n_13, SV.arr IntKind.u8 16 f_1], SV.slice s_2, SV.slice
  s_3])) ∧ J_2 w1)) (∀ (w1 : World), Upd [] [b_8] w1_4 w1 → some (SV.box b 28 (SV.struct [SV.int IntKind.i64 key_0, SV.int IntKind.i64 key_1, SV.bool key_2,
  SV.bool key_3, SV.int IntKind.i64 key_4, SV.int IntKind.i64 key_5, SV.int IntKind.i64 key_6, SV.struct [SV.int IntKind.i64 key_7_0, SV.arr IntKind.u8 16
  key_7_1], SV.struct [SV.int IntKind.i64 key_8_0, SV.arr IntKind.u8 16 key_8_1], SV.slice key_9, SV.slice key_10])) = some (SV.box b 28 (SV.struct [SV.int
  IntKind.i64 key_0, SV.int IntKind.i64 key_1, SV.bool key_2, SV.bool key_3, SV.int IntKind.i64 key_4, SV.int IntKind.i64 key_5, SV.int IntKind.i64 key_6,
  SV.struct [SV.int IntKind.i64 key_7_0, SV.arr IntKind.u8 16 key_7_1], SV.struct [SV.int IntKind.i64 key_8_0, SV.arr IntKind.u8 16 key_8_1], SV.slice key_9,
  SV.slice key_10])) ∧ some (SV.box b_5 28 (SV.struct [SV.int IntKind.i64 n_1, SV.int IntKind.i64 key_1, SV.bool b_3, SV.bool b_4, SV.int IntKind.i64 n_3,
  SV.int IntKind.i64 n_4, SV.int IntKind.i64 key_6, SV.struct [SV.int IntKind.i64 key_7_0, SV.arr IntKind.u8 16 key_7_1], SV.struct [SV.int IntKind.i64 key_8_0,
  SV.arr IntKind.u8 16 key_8_1], SV.slice s, SV.slice s_1])) = some (SV.box b_5 28 (SV.struct [SV.int IntKind.i64 n_1, SV.int IntKind.i64 key_1, SV.bool b_3,
  SV.bool b_4, SV.int IntKind.i64 n_3, SV.int IntKind.i64 n_4, SV.int IntKind.i64 key_6, SV.struct [SV.int IntKind.i64 key_7_0, SV.arr IntKind.u8 16 key_7_1],
  SV.struct [SV.int IntKind.i64 key_8_0, SV.arr IntKind.u8 16 key_8_1], SV.slice s, SV.slice s_1])) ∧ some (SV.box b_8 28 (SV.struct [SV.int IntKind.i64 n,
  SV.int IntKind.i64 n_8, SV.bool b_6, SV.bool b_7, SV.int IntKind.i64 n_9, SV.int IntKind.i64 n_10, SV.int IntKind.i64 n_11, SV.struct [SV.int IntKind.i64
  n_12, SV.arr IntKind.u8 16 f], SV.struct [SV.int IntKind.i64 n_13, SV.arr IntKind.u8 16 f_1], SV.slice s_2, SV.slice s_3])) = some (SV.box b_8 28 (SV.struct
  [SV.int IntKind.i64 n, SV.int IntKind.i64 n_8, SV.bool b_6, SV.bool b_7, SV.int IntKind.i64 n_9, SV.int IntKind.i64 n_10, SV.int IntKind.i64 n_11, SV.struct
  [SV.int IntKind.i64 n_12, SV.arr IntKind.u8 16 f], SV.struct [SV.int IntKind.i64 n_13, SV.arr IntKind.u8 16 f_1], SV.slice s_2, SV.slice s_3])) ∧ J_2 w1))
  (∀ (w1 : World), Upd [] [b_8] w1_4 w1 → Ret Try.prog 9 [SV.ptr (some { block := b_1, off := 0 }), SV.int IntKind.i64 n_3, SV.slice s_1, SV.bool b_4] w1
  fun (r : SV) (w1_5 : World) => r = SV.tuple [] ∧ Keeps [b, b_5, b_8] w1 w1_5 ∧ ∀ (J_2 : World → Prop), (∀ (w1 : World), Br (n_14 == 1) (∃ (s : Sl), World.cell?
  w1 { block := b_1, off := 0 } = some (Sl.val s) ∧ ∀ (w1_6 : World), Upd [] [] w1 w1_6 → Ret Try.prog 11 [SV.slice s_3, SV.slice s] w1_6 fun (r : SV) (w1_7
  : World) => ∃ (b_9 : Bool), r = SV.bool b_9 ∧ Keeps [b, b_5, b_8] w1_6 w1_7 ∧ Upd [] [] w1 w1_7 ∧ Br (!b_9) (R (SV.bool false) w1_7) (Br b_7 (R (SV.bool
  false) w1_7) (Br (n_9 != 0) (R (SV.bool false) w1_7) (Ret Try.prog 8 [SV.ptr p] w1_7 fun (r : SV) (w1 : World) => ∃ (n : Int), r = SV.int IntKind.i64 n
  ∧ Keeps [b, b_5, b_8] w1_7 w1 ∧ Br (n != 0) (R (SV.bool false) w1) (some (SV.box b 28 (SV.struct [SV.int IntKind.i64 key_0, SV.int IntKind.i64 key_1, SV.bool
  key_2, SV.bool key_3, SV.int IntKind.i64 key_4, SV.int IntKind.i64 key_5, SV.int IntKind.i64 key_6, SV.struct [SV.int IntKind.i64 key_7_0, SV.arr IntKind.u8
  16 key_7_1], SV.struct [SV.int IntKind.i64 key_8_0, SV.arr IntKind.u8 16 key_8_1], SV.slice key_9, SV.slice key_10])) = some (SV.box b 28 (SV.struct [SV.int
  IntKind.i64 key_0, SV.int IntKind.i64 key_1, SV.bool key_2, SV.bool key_3, SV.int IntKind.i64 key_4, SV.int IntKind.i64 key_5, SV.int IntKind.i64 key_6,
  SV.struct [SV.int IntKind.i64 key_7_0, SV.arr IntKind.u8 16 key_7_1], SV.struct [SV.int IntKind.i64 key_8_0, SV.arr IntKind.u8 16 key_8_1], SV.slice key_9,
  SV.slice key_10])) ∧ J true w1))))) (some (SV.box b 28 (SV.struct [SV.int IntKind.i64 key_0, SV.int IntKind.i64 key_1, SV.bool key_2, SV.bool key_3, SV.int
  IntKind.i64 key_4, SV.int IntKind.i64 key_5, SV.int IntKind.i64 key_6, SV.struct [SV.int IntKind.i64 key_7_0, SV.arr IntKind.u8 16 key_7_1], SV.struct [SV.int
  IntKind.i64 key_8_0, SV.arr IntKind.u8 16 key_8_1], SV.slice key_9, SV.slice key_10])) = some (SV.box b 28 (SV.struct [SV.int IntKind.i64 key_0, SV.int
  IntKind.i64 key_1, SV.bool key_2, SV.bool key_3, SV.int IntKind.i64 key_4, SV.int IntKind.i64 key_5, SV.int IntKind.i64 key_6, SV.struct [SV.int IntKind.i64
  key_7_0, SV.arr IntKind.u8 16 key_7_1], SV.struct [SV.int IntKind.i64 key_8_0, SV.arr IntKind.u8 16 key_8_1], SV.slice key_9, SV.slice key_10])) ∧ J b_2
  w1) → J_2 w1) → ∃ (n_16 : Int), World.cell? w1_5 (Addr.add { block := b_1, off := 0 } 2) = some (Value.int IntKind.i64 n_16) ∧ Br (decide (n_16 ≥ 0)) (∃
  (s_4 : Sl), World.cell? w1_5 { block := b_1, off := 0 } = some (Sl.val s_4) ∧ ∃ (n_17 : Int), World.cell? w1_5 (Addr.add { block := b_1, off := 0 } 2) =
  some (Value.int IntKind.i64 n_17) ∧ Br (decide ((↑s_4.2 : Int) > n_17)) (∀ (w1 : World), Upd [] [] w1_5 w1 → R (SV.bool false) w1) (∀ (w1 : World), Upd
  [] [] w1_5 w1 → Ret Try.prog 10 [SV.ptr (some { block := b_1, off := 0 })] w1 fun (r : SV) (w1_6 : World) => ∃ (b_9 : Bool), r = SV.bool b_9 ∧ Keeps [b,
  b_5, b_8] w1 w1_6 ∧ Br (!b_9 == (n_14 == 1)) (R (SV.bool false) w1_6) (some (SV.box b 28 (SV.struct [SV.int IntKind.i64 key_0, SV.int IntKind.i64 key_1,
  SV.bool key_2, SV.bool key_3, SV.int IntKind.i64 key_4, SV.int IntKind.i64 key_5, SV.int IntKind.i64 key_6, SV.struct [SV.int IntKind.i64 key_7_0, SV.arr
  IntKind.u8 16 key_7_1], SV.struct [SV.int IntKind.i64 key_8_0, SV.arr IntKind.u8 16 key_8_1], SV.slice key_9, SV.slice key_10])) = some (SV.box b 28 (SV.struct
  [SV.int IntKind.i64 key_0, SV.int IntKind.i64 key_1, SV.bool key_2, SV.bool key_3, SV.int IntKind.i64 key_4, SV.int IntKind.i64 key_5, SV.int IntKind.i64
  key_6, SV.struct [SV.int IntKind.i64 key_7_0, SV.arr IntKind.u8 16 key_7_1], SV.struct [SV.int IntKind.i64 key_8_0, SV.arr IntKind.u8 16 key_8_1], SV.slice
  key_9, SV.slice key_10])) ∧ some (SV.box b_5 28 (SV.struct [SV.int IntKind.i64 n_1, SV.int IntKind.i64 key_1, SV.bool b_3, SV.bool b_4, SV.int IntKind.i64
  n_3, SV.int IntKind.i64 n_4, SV.int IntKind.i64 key_6, SV.struct [SV.int IntKind.i64 key_7_0, SV.arr IntKind.u8 16 key_7_1], SV.struct [SV.int IntKind.i64
  key_8_0, SV.arr IntKind.u8 16 key_8_1], SV.slice s, SV.slice s_1])) = some (SV.box b_5 28 (SV.struct [SV.int IntKind.i64 n_1, SV.int IntKind.i64 key_1,
  SV.bool b_3, SV.bool b_4, SV.int IntKind.i64 n_3, SV.int IntKind.i64 n_4, SV.int IntKind.i64 key_6, SV.struct [SV.int IntKind.i64 key_7_0, SV.arr IntKind.u8
  16 key_7_1], SV.struct [SV.int IntKind.i64 key_8_0, SV.arr IntKind.u8 16 key_8_1], SV.slice s, SV.slice s_1])) ∧ some (SV.box b_8 28 (SV.struct [SV.int
  IntKind.i64 n, SV.int IntKind.i64 n_8, SV.bool b_6, SV.bool b_7, SV.int IntKind.i64 n_9, SV.int IntKind.i64 n_10, SV.int IntKind.i64 n_11, SV.struct [SV.int
  IntKind.i64 n_12, SV.arr IntKind.u8 16 f], SV.struct [SV.int IntKind.i64 n_13, SV.arr IntKind.u8 16 f_1], SV.slice s_2, SV.slice s_3])) = some (SV.box b_8
  28 (SV.struct [SV.int IntKind.i64 n, SV.int IntKind.i64 n_8, SV.bool b_6, SV.bool b_7, SV.int IntKind.i64 n_9, SV.int IntKind.i64 n_10, SV.int IntKind.i64
  n_11, SV.struct [SV.int IntKind.i64 n_12, SV.arr IntKind.u8 16 f], SV.struct [SV.int IntKind.i64 n_13, SV.arr IntKind.u8 16 f_1], SV.slice s_2, SV.slice
  s_3])) ∧ J_2 w1_6))) (∀ (w1 : World), Upd [] [] w1_5 w1 → Ret Try.prog 10 [SV.ptr (some { block := b_1, off := 0 })] w1 fun (r : SV) (w1_6 : World) => ∃
  (b_9 : Bool), r = SV.bool b_9 ∧ Keeps [b, b_5, b_8] w1 w1_6 ∧ Br (!b_9 == (n_14 == 1)) (R (SV.bool false) w1_6) (some (SV.box b 28 (SV.struct [SV.int IntKind.i64
  key_0, SV.int IntKind.i64 key_1, SV.bool key_2, SV.bool key_3, SV.int IntKind.i64 key_4, SV.int IntKind.i64 key_5, SV.int IntKind.i64 key_6, SV.struct [SV.int
  IntKind.i64 key_7_0, SV.arr IntKind.u8 16 key_7_1], SV.struct [SV.int IntKind.i64 key_8_0, SV.arr IntKind.u8 16 key_8_1], SV.slice key_9, SV.slice key_10]))
  = some (SV.box b 28 (SV.struct [SV.int IntKind.i64 key_0, SV.int IntKind.i64 key_1, SV.bool key_2, SV.bool key_3, SV.int IntKind.i64 key_4, SV.int IntKind.i64
  key_5, SV.int IntKind.i64 key_6, SV.struct [SV.int IntKind.i64 key_7_0, SV.arr IntKind.u8 16 key_7_1], SV.struct [SV.int IntKind.i64 key_8_0, SV.arr IntKind.u8
  16 key_8_1], SV.slice key_9, SV.slice key_10])) ∧ some (SV.box b_5 28 (SV.struct [SV.int IntKind.i64 n_1, SV.int IntKind.i64 key_1, SV.bool b_3, SV.bool
  b_4, SV.int IntKind.i64 n_3, SV.int IntKind.i64 n_4, SV.int IntKind.i64 key_6, SV.struct [SV.int IntKind.i64 key_7_0, SV.arr IntKind.u8 16 key_7_1], SV.struct
  [SV.int IntKind.i64 key_8_0, SV.arr IntKind.u8 16 key_8_1], SV.slice s, SV.slice s_1])) = some (SV.box b_5 28 (SV.struct [SV.int IntKind.i64 n_1, SV.int
  IntKind.i64 key_1, SV.bool b_3, SV.bool b_4, SV.int IntKind.i64 n_3, SV.int IntKind.i64 n_4, SV.int IntKind.i64 key_6, SV.struct [SV.int IntKind.i64 key_7_0,
  SV.arr IntKind.u8 16 key_7_1], SV.struct [SV.int IntKind.i64 key_8_0, SV.arr IntKind.u8 16 key_8_1], SV.slice s, SV.slice s_1])) ∧ some (SV.box b_8 28 (SV.struct
  [SV.int IntKind.i64 n, SV.int IntKind.i64 n_8, SV.bool b_6, SV.bool b_7, SV.int IntKind.i64 n_9, SV.int IntKind.i64 n_10, SV.int IntKind.i64 n_11, SV.struct
  [SV.int IntKind.i64 n_12, SV.arr IntKind.u8 16 f], SV.struct [SV.int IntKind.i64 n_13, SV.arr IntKind.u8 16 f_1], SV.slice s_2, SV.slice s_3])) = some (SV.box
  b_8 28 (SV.struct [SV.int IntKind.i64 n, SV.int IntKind.i64 n_8, SV.bool b_6, SV.bool b_7, SV.int IntKind.i64 n_9, SV.int IntKind.i64 n_10, SV.int IntKind.i64
  n_11, SV.struct [SV.int IntKind.i64 n_12, SV.arr IntKind.u8 16 f], SV.struct [SV.int IntKind.i64 n_13, SV.arr IntKind.u8 16 f_1], SV.slice s_2, SV.slice
  s_3])) ∧ J_2 w1_6))))) → J_1 w1) → Br (!b_4) (Br (n_3 == 0) (∀ (w1 : World), Upd [] [b_5] w1_3 w1 → some (SV.box b 28 (SV.struct [SV.int IntKind.i64 key_0,
  SV.int IntKind.i64 key_1, SV.bool key_2, SV.bool key_3, SV.int IntKind.i64 key_4, SV.int IntKind.i64 key_5, SV.int IntKind.i64 key_6, SV.struct [SV.int
  IntKind.i64 key_7_0, SV.arr IntKind.u8 16 key_7_1], SV.struct [SV.int IntKind.i64 key_8_0, SV.arr IntKind.u8 16 key_8_1], SV.slice key_9, SV.slice key_10]))
  = some (SV.box b 28 (SV.struct [SV.int IntKind.i64 key_0, SV.int IntKind.i64 key_1, SV.bool key_2, SV.bool key_3, SV.int IntKind.i64 key_4, SV.int IntKind.i64
  key_5, SV.int IntKind.i64 key_6, SV.struct [SV.int IntKind.i64 key_7_0, SV.arr IntKind.u8 16 key_7_1], SV.struct [SV.int IntKind.i64 key_8_0, SV.arr IntKind.u8
  16 key_8_1], SV.slice key_9, SV.slice key_10])) ∧ J b_2 w1) (∀ (w1 : World), Upd [] [b_5] w1_3 w1 → Ret Try.prog 6 [SV.struct [SV.int IntKind.i64 n_1, SV.int
  IntKind.i64 key_1, SV.bool b_3, SV.bool b_4, SV.int IntKind.i64 n_3, SV.int IntKind.i64 n_4, SV.int IntKind.i64 key_6, SV.struct [SV.int IntKind.i64 key_7_0,
  SV.arr IntKind.u8 16 key_7_1], SV.struct [SV.int IntKind.i64 key_8_0, SV.arr IntKind.u8 16 key_8_1], SV.slice s, SV.slice s_1]] w1 fun (r : SV) (w1_4 :
  World) => ∃ (n : Int), r = SV.int IntKind.i64 n ∧ Keeps [b, b_5] w1 w1_4 ∧ Br (n != 0) (some (SV.box b 28 (SV.struct [SV.int IntKind.i64 key_0, SV.int IntKind.i64
  key_1, SV.bool key_2, SV.bool key_3, SV.int IntKind.i64 key_4, SV.int IntKind.i64 key_5, SV.int IntKind.i64 key_6, SV.struct [SV.int IntKind.i64 key_7_0,
  SV.arr IntKind.u8 16 key_7_1], SV.struct [SV.int IntKind.i64 key_8_0, SV.arr IntKind.u8 16 key_8_1], SV.slice key_9, SV.slice key_10])) = some (SV.box b
  28 (SV.struct [SV.int IntKind.i64 key_0, SV.int IntKind.i64 key_1, SV.bool key_2, SV.bool key_3, SV.int IntKind.i64 key_4, SV.int IntKind.i64 key_5, SV.int
  IntKind.i64 key_6, SV.struct [SV.int IntKind.i64 key_7_0, SV.arr IntKind.u8 16 key_7_1], SV.struct [SV.int IntKind.i64 key_8_0, SV.arr IntKind.u8 16 key_8_1],
  SV.slice key_9, SV.slice key_10])) ∧ J b_2 w1_4) (some (SV.box b 28 (SV.struct [SV.int IntKind.i64 key_0, SV.int IntKind.i64 key_1, SV.bool key_2, SV.bool
  key_3, SV.int IntKind.i64 key_4, SV.int IntKind.i64 key_5, SV.int IntKind.i64 key_6, SV.struct [SV.int IntKind.i64 key_7_0, SV.arr IntKind.u8 16 key_7_1],
  SV.struct [SV.int IntKind.i64 key_8_0, SV.arr IntKind.u8 16 key_8_1], SV.slice key_9, SV.slice key_10])) = some (SV.box b 28 (SV.struct [SV.int IntKind.i64
  key_0, SV.int IntKind.i64 key_1, SV.bool key_2, SV.bool key_3, SV.int IntKind.i64 key_4, SV.int IntKind.i64 key_5, SV.int IntKind.i64 key_6, SV.struct [SV.int
  IntKind.i64 key_7_0, SV.arr IntKind.u8 16 key_7_1], SV.struct [SV.int IntKind.i64 key_8_0, SV.arr IntKind.u8 16 key_8_1], SV.slice key_9, SV.slice key_10]))
  ∧ some (SV.box b_5 28 (SV.struct [SV.int IntKind.i64 n_1, SV.int IntKind.i64 key_1, SV.bool b_3, SV.bool b_4, SV.int IntKind.i64 n_3, SV.int IntKind.i64
  n_4, SV.int IntKind.i64 key_6, SV.struct [SV.int IntKind.i64 key_7_0, SV.arr IntKind.u8 16 key_7_1], SV.struct [SV.int IntKind.i64 key_8_0, SV.arr IntKind.u8
  16 key_8_1], SV.slice s, SV.slice s_1])) = some (SV.box b_5 28 (SV.struct [SV.int IntKind.i64 n_1, SV.int IntKind.i64 key_1, SV.bool b_3, SV.bool b_4, SV.int
  IntKind.i64 n_3, SV.int IntKind.i64 n_4, SV.int IntKind.i64 key_6, SV.struct [SV.int IntKind.i64 key_7_0, SV.arr IntKind.u8 16 key_7_1], SV.struct [SV.int
  IntKind.i64 key_8_0, SV.arr IntKind.u8 16 key_8_1], SV.slice s, SV.slice s_1])) ∧ J_1 w1_4))) (∀ (w1 : World), Upd [] [b_5] w1_3 w1 → Ret Try.prog 6 [SV.struct
  [SV.int IntKind.i64 n_1, SV.int IntKind.i64 key_1, SV.bool b_3, SV.bool b_4, SV.int IntKind.i64 n_3, SV.int IntKind.i64 n_4, SV.int IntKind.i64 key_6, SV.struct
  [SV.int IntKind.i64 key_7_0, SV.arr IntKind.u8 16 key_7_1], SV.struct [SV.int IntKind.i64 key_8_0, SV.arr IntKind.u8 16 key_8_1], SV.slice s, SV.slice s_1]]
  w1 fun (r : SV) (w1_4 : World) => ∃ (n : Int), r = SV.int IntKind.i64 n ∧ Keeps [b, b_5] w1 w1_4 ∧ Br (n != 0) (some (SV.box b 28 (SV.struct [SV.int IntKind.i64
  key_0, SV.int IntKind.i64 key_1, SV.bool key_2, SV.bool key_3, SV.int IntKind.i64 key_4, SV.int IntKind.i64 key_5, SV.int IntKind.i64 key_6, SV.struct [SV.int
  IntKind.i64 key_7_0, SV.arr IntKind.u8 16 key_7_1], SV.struct [SV.int IntKind.i64 key_8_0, SV.arr IntKind.u8 16 key_8_1], SV.slice key_9, SV.slice key_10]))
  = some (SV.box b 28 (SV.struct [SV.int IntKind.i64 key_0, SV.int IntKind.i64 key_1, SV.bool key_2, SV.bool key_3, SV.int IntKind.i64 key_4, SV.int IntKind.i64
  key_5, SV.int IntKind.i64 key_6, SV.struct [SV.int IntKind.i64 key_7_0, SV.arr IntKind.u8 16 key_7_1], SV.struct [SV.int IntKind.i64 key_8_0, SV.arr IntKind.u8
  16 key_8_1], SV.slice key_9, SV.slice key_10])) ∧ J b_2 w1_4) (some (SV.box b 28 (SV.struct [SV.int IntKind.i64 key_0, SV.int IntKind.i64 key_1, SV.bool
  key_2, SV.bool key_3, SV.int IntKind.i64 key_4, SV.int IntKind.i64 key_5, SV.int IntKind.i64 key_6, SV.struct [SV.int IntKind.i64 key_7_0, SV.arr IntKind.u8
  16 key_7_1], SV.struct [SV.int IntKind.i64 key_8_0, SV.arr IntKind.u8 16 key_8_1], SV.slice key_9, SV.slice key_10])) = some (SV.box b 28 (SV.struct [SV.int
  IntKind.i64 key_0, SV.int IntKind.i64 key_1, SV.bool key_2, SV.bool key_3, SV.int IntKind.i64 key_4, SV.int IntKind.i64 key_5, SV.int IntKind.i64 key_6,
  SV.struct [SV.int IntKind.i64 key_7_0, SV.arr IntKind.u8 16 key_7_1], SV.struct [SV.int IntKind.i64 key_8_0, SV.arr IntKind.u8 16 key_8_1], SV.slice key_9,
  SV.slice key_10])) ∧ some (SV.box b_5 28 (SV.struct [SV.int IntKind.i64 n_1, SV.int IntKind.i64 key_1, SV.bool b_3, SV.bool b_4, SV.int IntKind.i64 n_3,
  SV.int IntKind.i64 n_4, SV.int IntKind.i64 key_6, SV.struct [SV.int IntKind.i64 key_7_0, SV.arr IntKind.u8 16 key_7_1], SV.struct [SV.int IntKind.i64 key_8_0,
  SV.arr IntKind.u8 16 key_8_1], SV.slice s, SV.slice s_1])) = some (SV.box b_5 28 (SV.struct [SV.int IntKind.i64 n_1, SV.int IntKind.i64 key_1, SV.bool b_3,
  SV.bool b_4, SV.int IntKind.i64 n_3, SV.int IntKind.i64 n_4, SV.int IntKind.i64 key_6, SV.struct [SV.int IntKind.i64 key_7_0, SV.arr IntKind.u8 16 key_7_1],
  SV.struct [SV.int IntKind.i64 key_8_0, SV.arr IntKind.u8 16 key_8_1], SV.slice s, SV.slice s_1])) ∧ J_1 w1_4)))) → J w1_3) → Br (decide (n < (↑pieces.2
  : Int))) (Br (decide (n < 100)) (some (SV.box b 28 (SV.struct [SV.int IntKind.i64 key_0, SV.int IntKind.i64 key_1, SV.bool key_2, SV.bool key_3, SV.int
  IntKind.i64 key_4, SV.int IntKind.i64 key_5, SV.int IntKind.i64 key_6, SV.struct [SV.int IntKind.i64 key_7_0, SV.arr IntKind.u8 16 key_7_1], SV.struct [SV.int
  IntKind.i64 key_8_0, SV.arr IntKind.u8 16 key_8_1], SV.slice key_9, SV.slice key_10])) = some (SV.box b 28 (SV.struct [SV.int IntKind.i64 key_0, SV.int
  IntKind.i64 key_1, SV.bool key_2, SV.bool key_3, SV.int IntKind.i64 key_4, SV.int IntKind.i64 key_5, SV.int IntKind.i64 key_6, SV.struct [SV.int IntKind.i64
  key_7_0, SV.arr IntKind.u8 16 key_7_1], SV.struct [SV.int IntKind.i64 key_8_0, SV.arr IntKind.u8 16 key_8_1], SV.slice key_9, SV.slice key_10])) ∧ J w1)
  (R (SV.bool true) w1)) (R (SV.bool true) w1)) → J w1) → Br (n != 0) (R (SV.bool false) w1_1) (Br (Option.isNone p) (R (SV.bool false) w1_1) (some (SV.box
  b 28 (SV.struct [SV.int IntKind.i64 key_0, SV.int IntKind.i64 key_1, SV.bool key_2, SV.bool key_3, SV.int IntKind.i64 key_4, SV.int IntKind.i64 key_5, SV.int
  IntKind.i64 key_6, SV.struct [SV.int IntKind.i64 key_7_0, SV.arr IntKind.u8 16 key_7_1], SV.struct [SV.int IntKind.i64 key_8_0, SV.arr IntKind.u8 16 key_8_1],
  SV.slice key_9, SV.slice key_10])) = some (SV.box b 28 (SV.struct [SV.int IntKind.i64 key_0, SV.int IntKind.i64 key_1, SV.bool key_2, SV.bool key_3, SV.int
  IntKind.i64 key_4, SV.int IntKind.i64 key_5, SV.int IntKind.i64 key_6, SV.struct [SV.int IntKind.i64 key_7_0, SV.arr IntKind.u8 16 key_7_1], SV.struct [SV.int
  IntKind.i64 key_8_0, SV.arr IntKind.u8 16 key_8_1], SV.slice key_9, SV.slice key_10])) ∧ J w1_1))
theorem f3_of (key_0 : Int) (key_1 : Int) (key_2 : Bool) (key_3 : Bool) (key_4 : Int) (key_5 : Int) (key_6 : Int) (key_7_0 : Int) (key_7_1 : Nat → Int) (key_8_0 : Int) (key_8_1 : Nat → Int) (key_9 : Sl) (key_10 : Sl) (pieces : Sl) (w : World) (R : SV → World → Prop) (hV : vc3 key_0 key_1 key_2 key_3 key_4 key_5 key_6 key_7_0 key_7_1 key_8_0 key_8_1 key_9 key_10 pieces w R) : Ret Try.prog 3 [.struct [.int .i64 key_0, .int .i64 key_1, .bool key_2, .bool key_3, .int .i64 key_4, .int .i64 key_5, .int .i64 key_6, .struct [.int .i64 key_7_0, .arr .u8 16 key_7_1], .struct [.int .i64 key_8_0, .arr .u8 16 key_8_1], .slice key_9, .slice key_10], .slice pieces] w R :=
  have e : vc3 key_0 key_1 key_2 key_3 key_4 key_5 key_6 key_7_0 key_7_1 key_8_0 key_8_1 key_9 key_10 pieces w R = fnVC X Try.f3 a3 [.struct [.int .i64 key_0, .int .i64 key_1, .bool key_2, .bool key_3, .int .i64 key_4, .int .i64 key_5, .int .i64 key_6, .struct [.int .i64 key_7_0, .arr .u8 16 key_7_1], .struct [.int .i64 key_8_0, .arr .u8 16 key_8_1], .slice key_9, .slice key_10], .slice pieces] w R := by kernel_rfl
  fnVC_sound X_ok (n := a3) (e ▸ hV) (by kernel_rfl) (by kernel_rfl) rfl rfl

end Go.Vc.Stop
end

section
open Go Go.Vc Go.Proofs
set_option linter.unusedVariables false
set_option linter.unusedSimpArgs false
set_option autoImplicit false
namespace Go.Vc.Stop
def cBl : Cod Bool := ⟨1, fun b => [.bool b], fun _ => rfl, by simp [Value.oneCell']⟩
def shB (sb : Nat) (B I : Sl) : List Nat := sb :: (B.blk ++ I.blk)
/-- what has come of one datagram, byte by byte -/
structure Sht (N : Nat) (w : World) (sb : Nat) (lb : List Int) (li : List Bool) (e : Int) (B I : Sl) : Prop where
  box : Blk w sb [B.val, I.val, .int .i64 e]
  b : SeesB w B lb
  bo : Own N 1 w B
  i : Sees cBl w I li
  io : Own N 1 w I
  d1 : sb ∉ B.blk
  d2 : sb ∉ I.blk
  d3 : ∀ x ∈ B.blk, x ∉ I.blk
  le : N ≤ sb
  len : li.length = lb.length
  byt : Byt lb
section
variable {N sb : Nat} {w w1 : World} {lb : List Int} {li : List Bool} {e : Int} {B I : Sl} {R : SV → World → Prop}
theorem Sht.upd {m n : List Nat} (h : Sht N w sb lb li e B I) (u : Upd m n w w1) (hm : ∀ x ∈ shB sb B I, x ∉ m) : Sht N w1 sb lb li e B I :=
  have hB : ∀ x ∈ B.blk, x ∉ m := fun x hx => hm x (by simp [shB, hx])
  have hI : ∀ x ∈ I.blk, x ∉ m := fun x hx => hm x (by simp [shB, hx])
  ⟨h.box.upd u (hm sb (by simp [shB])), h.b.upd u hB, h.bo.upd u hB, h.i.upd u hI, h.io.upd u hI, h.d1, h.d2, h.d3, h.le, h.len, h.byt⟩
theorem Sht.old {n : List Nat} (h : Sht N w sb lb li e B I) (u : Upd [] n w w1) : Sht N w1 sb lb li e B I := h.upd u (by simp)
theorem Sht.lt (h : Sht N w sb lb li e B I) : ∀ x ∈ shB sb B I, N ≤ x ∧ x < w.heap.size := fun x hx => by
  rcases List.mem_cons.1 hx with rfl | q
  · exact ⟨h.le, h.box.lt⟩
  · rcases List.mem_append.1 q with q | q
    · exact h.bo.blk x q
    · exact h.io.blk x q
/-- a piece laid on the sheet -/
structure LayR (lb : List Int) (li : List Bool) (off : Nat) (l : List Int) (lb' : List Int) (li' : List Bool) : Prop where
  len : lb'.length = max lb.length (off + l.length)
  i : ∀ j, li'.getD j false = (li.getD j false || (decide (off ≤ j) && decide (j < off + l.length)))
  b : ∀ j, lb'.getD j 0 = if li.getD j false then lb.getD j 0 else if off ≤ j ∧ j < off + l.length then l.getD (j - off) 0 else lb.getD j 0
theorem getD_app {α : Type} (l : List α) (m j : Nat) (d : α) : (l ++ List.replicate m d).getD j d = l.getD j d := by
  simp only [List.getD_eq_getElem?_getD]
  by_cases h : j < l.length
  · rw [List.getElem?_append_left h]
  · rw [List.getElem?_append_right (by omega), List.getElem?_eq_none (show l.length ≤ j by omega)]
    by_cases h2 : j - l.length < m
    · simp [h2]
    · rw [List.getElem?_eq_none (by simp; omega)]
theorem getD_set {α : Type} (l : List α) (i j : Nat) (x d : α) (h : i < l.length) : (l.set i x).getD j d = if i = j then x else l.getD j d := by
  simp only [List.getD_eq_getElem?_getD, List.getElem?_set]
  split
  · rename_i e; subst e; simp [h]
  · rfl
theorem blC {w : World} {g : Sl} {os : List Bool} (h : Sees cBl w g os) (i : Nat) (hi : i < os.length) : w.cell? (g.at 1 i) = some (.bool (os.getD i false)) ∧ g.ptr.isSome = true := by
  have h1 := h.elem (i := i) hi 0 (by simp [cBl])
  rw [add_zero] at h1
  have e : os.getD i false = os[i] := by simp [List.getD_eq_getElem?_getD, hi]
  rw [e]
  exact ⟨h1, h.isSome (by decide) (by omega)⟩
theorem byC' {w : World} {g : Sl} {os : List Int} (h : SeesB w g os) (i : Nat) (hi : i < os.length) : w.cell? (g.at 1 i) = some (.int .u8 (os.getD i 0)) ∧ g.ptr.isSome = true := by
  have h1 := h.elem (i := i) hi 0 (by simp [cU8])
  rw [add_zero] at h1
  have e : os.getD i 0 = os[i] := by simp [List.getD_eq_getElem?_getD, hi]
  rw [e]
  exact ⟨h1, h.isSome (by decide) (by omega)⟩
set_option maxRecDepth 20000 in
set_option maxHeartbeats 1000000 in
theorem c9 {off : Nat} {data : Sl} {l : List Int} {more : Bool} (H : Sht N w sb lb li e B I) (hN : N ≤ w.heap.size) (hd : SeesB w data l) (hb : Byt l) (hdis : ∀ x ∈ data.blk, x < w.heap.size ∧ x ∉ shB sb B I) (hl : off + l.length ≤ 1000000) (hlb : lb.length ≤ 1000000)
    (k : ∀ B' I' lb' li' w1, Upd (shB sb B I) [] w w1 → Sht N w1 sb lb' li' (if more = false ∧ e < 0 then ((off + l.length : Nat) : Int) else e) B' I' → (∀ x ∈ shB sb B' I', x ∈ shB sb B I ∨ w.heap.size ≤ x) → LayR lb li off l lb' li' → R (.tuple []) w1) :
    Ret Try.prog 9 [.ptr (some ⟨sb, 0, none⟩), .int .i64 (off : Int), .slice data, .bool more] w R := by
  refine f9_of _ _ _ _ _ _ ?_
  unfold vc9
  dsimp only [deref]
  have hdl := hd.len
  have hwr : wr .i64 ((off : Int) + (data.len : Int)) = ((off + l.length : Nat) : Int) := by rw [hdl, wr_i64 (by omega) (by omega)]; omega
  have hlt := H.lt
  rw [hwr]
  refine ⟨fun w' => ∃ (m : Nat) (B' I' : Sl), lb.length + m ≤ max lb.length (off + l.length) ∧ Upd (shB sb B I) [] w w' ∧ Sht N w' sb (lb ++ List.replicate m 0) (li ++ List.replicate m false) e B' I' ∧ (∀ x ∈ shB sb B' I', x ∈ shB sb B I ∨ w.heap.size ≤ x),
    fun w' => (off + l.length) - (match w'.cell? ⟨sb, 0, none⟩ with | some (.slice _ n _) => n | _ => 0), ⟨0, B, I, by omega, (Upd.refl w).wide (by simp), by simpa using H, fun x hx => .inl hx⟩, ?_⟩
  rintro w1 ⟨m, B1, I1, hm, U1, H1, sub1⟩
  have z1 := U1.size
  have bl := H1.b.len
  have il := H1.i.len
  have hll := H.len
  simp only [List.length_append, List.length_replicate] at bl il
  have lt1 := H1.lt
  have ms : ∀ {w' : World} {B2 I2 : Sl} {e2 : Int}, Blk w' sb [B2.val, I2.val, .int .i64 e2] → (off + l.length) - (match w'.cell? ⟨sb, 0, none⟩ with | some (.slice _ n _) => n | _ => 0) = off + l.length - B2.len := fun h => by rw [h.at0 rfl]; rfl
  refine ⟨B1, H1.box.at0 rfl, brd (fun hlt2 => ?_) (fun hge => ?_)⟩
  · refine ⟨B1, H1.box.at0 rfl, fun b w2 u2 hr2 => ?_⟩
    have n2 := u2.new (b := b) (by simp)
    have H2 := H1.old u2
    have z2 := u2.size
    refine append_own (c := cU8) (new := [0]) H2.b H2.bo (sees_row hr2 [0] rfl rfl) (by omega) (by simp) (by decide) (by simp; omega) fun B3 w3 hB3 oB3 u3 nB3 => ?_
    have z3 := u3.size
    have bB : ∀ x ∈ B1.blk, N ≤ x ∧ x < w1.heap.size := fun x hx => lt1 x (by simp [shB, hx])
    have bI : ∀ x ∈ I1.blk, N ≤ x ∧ x < w1.heap.size := fun x hx => lt1 x (by simp [shB, hx])
    have sl := lt1 sb (by simp [shB])
    have box3 := H2.box.upd u3 H1.d1
    have I3 := H2.i.upd u3 (fun x hx hm => H1.d3 x hm hx)
    have oI3 := H2.io.upd u3 (fun x hx hm => H1.d3 x hm hx)
    have nB : ∀ x ∈ B3.blk, x ∈ B1.blk ∨ w2.heap.size ≤ x := nB3
    have sB3 : sb ∉ B3.blk := fun hm => by
      rcases nB _ hm with q | q
      · exact H1.d1 q
      · omega
    refine Blk.store0 (vs := [B3.val]) box3 (by simp) (by simp) fun w4 box4 u4 => ?_
    have box4 : Blk w4 sb [B3.val, I1.val, .int .i64 e] := box4
    have offs : ∀ {g : Sl}, sb ∉ g.blk → ∀ x ∈ g.blk, x ∉ [sb] := fun h x hx hm => by simp at hm; exact h (hm ▸ hx)
    have B4 := hB3.upd u4 (offs sB3); have oB4 := oB3.upd u4 (offs sB3)
    have I4 := I3.upd u4 (offs H1.d2); have oI4 := oI3.upd u4 (offs H1.d2)
    have z4 := u4.size
    refine ⟨I1, box4.at_ 1 rfl, fun b' w5 u5 hr5 => ?_⟩
    have z5 := u5.size
    refine append_own (c := cBl) (new := [false]) (I4.old u5) (oI4.old u5) (sees_row hr5 [false] rfl rfl) (by omega) (by simp) (by decide) (by simp; omega) fun I6 w6 hI6 oI6 u6 nI6 => ?_
    have nI : ∀ x ∈ I6.blk, x ∈ I1.blk ∨ w5.heap.size ≤ x := nI6
    have z6 := u6.size
    have dBI : ∀ x ∈ B3.blk, x ∉ I1.blk := fun x hx hm => by
      rcases nB x hx with q | q
      · exact H1.d3 x q hm
      · have := bI x hm; omega
    have box6 := (box4.old u5).upd u6 H1.d2
    have B6 := (B4.old u5).upd u6 dBI; have oB6 := (oB4.old u5).upd u6 dBI
    have sI6 : sb ∉ I6.blk := fun hm => by
      rcases nI _ hm with q | q
      · exact H1.d2 q
      · omega
    refine Blk.store (o := 1) (vs := [I6.val]) box6 (by simp) (by simp) fun w7 box7 u7 => ?_
    have box7 : Blk w7 sb [B3.val, I6.val, .int .i64 e] := box7
    have z7 := u7.size
    have lB3 := oB3.blk
    have U7 : Upd (shB sb B I) [] w w7 := by
      have in1 : ∀ x ∈ shB sb B1 I1, w.heap.size ≤ x ∨ x ∈ shB sb B I := fun x hx => (sub1 x hx).symm
      have v2 := U1.step u2 (by simp)
      have v3 := v2.step u3 (fun x hx => in1 x (by simp [shB, hx]))
      have v4 := v3.step u4 (fun x hx => by simp at hx; exact in1 x (by simp [shB, hx]))
      have v5 := v4.step u5 (by simp)
      have v6 := v5.step u6 (fun x hx => in1 x (by simp [shB, hx]))
      exact v6.step u7 (fun x hx => by simp at hx; exact in1 x (by simp [shB, hx]))
    refine ⟨⟨m + 1, B3, I6, by omega, U7, ⟨box7, ?_, oB6.upd u7 (offs sB3), ?_, oI6.upd u7 (offs sI6), sB3, sI6, fun x hx hm => ?_, H.le, by simp [H.len], fun x hx => ?_⟩, fun x hx => ?_⟩, ?_⟩
    · rw [List.replicate_succ', ← List.append_assoc]
      exact B6.upd u7 (offs sB3)
    · rw [List.replicate_succ', ← List.append_assoc]
      exact hI6.upd u7 (offs sI6)
    · rcases nI x hm with q | q
      · exact dBI x hx q
      · have := (lB3 x hx).2; omega
    · rcases List.mem_append.1 hx with q | q
      · exact H.byt x q
      · rw [List.eq_of_mem_replicate q]; omega
    · rcases List.mem_cons.1 hx with e' | hx
      · exact .inl (by simp [shB, e'])
      · rcases List.mem_append.1 hx with q | q
        · rcases nB x q with q | q
          · exact sub1 x (by simp [shB, q])
          · exact .inr (by omega)
        · rcases nI x q with q | q
          · exact sub1 x (by simp [shB, q])
          · exact .inr (by omega)
    · dsimp only; rw [ms box7, ms H1.box]
      have := hB3.len
      simp at this
      omega
  · -- all is long enough
    have hm2 : lb.length + m = max lb.length (off + l.length) := by omega
    refine ⟨fun n w' => ∃ (q : Nat) (b2 : List Int) (i2 : List Bool), n = q ∧ q ≤ l.length ∧ Upd (shB sb B I) [] w w' ∧ Sht N w' sb b2 i2 e B1 I1 ∧ b2.length = lb.length + m ∧ (∀ j, i2.getD j false = (li.getD j false || (decide (off ≤ j) && decide (j < off + q)))) ∧ (∀ j, b2.getD j 0 = if li.getD j false then lb.getD j 0 else if off ≤ j ∧ j < off + q then l.getD (j - off) 0 else lb.getD j 0),
      fun n _ => (l.length - n).toNat, ⟨0, _, _, rfl, by omega, U1, H1, by simp, fun j => ?_, fun j => ?_⟩, ?_⟩
    · rw [getD_app]
      have : (decide (off ≤ j) && decide (j < off + 0)) = false := by simp <;> omega
      rw [this, Bool.or_false]
    · rw [getD_app]
      split
      · rfl
      · rw [if_neg (by omega)]
    rintro n w2 ⟨q, b2, i2, rfl, hq, U2, H2, hb2, hi2, hv2⟩
    have l2 := H2.len
    have bl2 := H2.b.len
    have il2 := H2.i.len
    have z2 := U2.size
    rw [hdl]
    refine brd (fun hlt3 => ?_) (fun hge3 => ?_)
    · have hq2 : q < l.length := by omega
      have hoq : off + q < b2.length := by omega
      intro J hJ
      have hw2 : wr .i64 ((off : Int) + (q : Int)) = ((off + q : Nat) : Int) := by rw [wr_i64 (by omega) (by omega)]; omega
      rw [hw2]
      obtain ⟨c1, c2⟩ := blC H2.i (off + q) (by omega)
      refine ⟨I1, H2.box.at_ 1 rfl, needIx (by omega) (by omega) c2 ⟨_, by rw [Int.toNat_natCast]; exact c1, brn (fun hf => ?_) (fun hf => ?_)⟩⟩
      · obtain ⟨c3, c4⟩ := byC' (hd.upd U2 (fun x hx => (hdis x hx).2)) q hq2
        obtain ⟨_, c6⟩ := byC' H2.b (off + q) hoq
        refine ⟨B1, H2.box.at0 rfl, needIx (by omega) (by omega) c4 ⟨_, by rw [Int.toNat_natCast]; exact c3, needIx (by omega) (by omega) c6 (fun w3 u3 => ?_)⟩⟩
        have H3 := H2.old u3
        rw [Int.toNat_natCast]
        refine own_set (c := cU8) (i := off + q) (x := l.getD q 0) H3.b H3.bo (by decide) hoq rfl (by simp) fun w4 hB4 oB4 u4 => ?_
        have box4 := H3.box.upd u4 H2.d1
        have I4 := H3.i.upd u4 (fun x hx hm => H2.d3 x hm hx)
        have oI4 := H3.io.upd u4 (fun x hx hm => H2.d3 x hm hx)
        obtain ⟨_, c8⟩ := blC I4 (off + q) (by omega)
        refine ⟨I1, box4.at_ 1 rfl, needIx (by omega) (by omega) c8 ?_⟩
        refine own_set (c := cBl) (i := off + q) (x := true) I4 oI4 (by decide) (by omega) rfl (by simp) fun w5 hI5 oI5 u5 => hJ _ ?_
        have lt2 := H2.lt
        have U5 : Upd (shB sb B I) [] w w5 := by
          have in1 : ∀ x ∈ shB sb B1 I1, w.heap.size ≤ x ∨ x ∈ shB sb B I := fun x hx => (sub1 x hx).symm
          exact ((U2.step u3 (by simp)).step u4 (fun x hx => in1 x (by simp [shB, hx]))).step u5 (fun x hx => in1 x (by simp [shB, hx]))
        have elq : l.getD q 0 = l[q] := by simp [List.getD_eq_getElem?_getD, hq2]
        have hli : li.getD (off + q) false = false := by
          have := hi2 (off + q)
          rw [hf] at this
          cases h : li.getD (off + q) false with
          | false => rfl
          | true => rw [h] at this; simp at this
        refine ⟨⟨q + 1, b2.set (off + q) (l.getD q 0), i2.set (off + q) true, wr_succ (by omega), by omega, U5, ⟨box4.upd u5 H2.d2, hB4.upd u5 (fun x hx hm => H2.d3 x hx hm), oB4.upd u5 (fun x hx hm => H2.d3 x hx hm), hI5, oI5, H2.d1, H2.d2, H2.d3, H2.le, by simp [l2], H2.byt.set _ (by rw [elq]; exact hb _ (List.getElem_mem hq2))⟩, by simp [hb2], fun j => ?_, fun j => ?_⟩, by rw [wr_succ (by omega)]; (try dsimp only); omega⟩
        · rw [getD_set _ _ _ _ _ (by omega)]
          split
          · rename_i ej; subst ej
            have : (decide (off ≤ off + q) && decide (off + q < off + (q + 1))) = true := by simp <;> omega
            rw [this, Bool.or_true]
          · rename_i ej
            rw [hi2 j]
            congr 1
            rw [Bool.eq_iff_iff]
            simp
            omega
        · rw [getD_set _ _ _ _ _ hoq]
          split
          · rename_i ej; subst ej
            rw [hli, if_neg (by simp), if_pos (by omega), show off + q - off = q by omega]
          · rename_i ej
            rw [hv2 j]
            split
            · rfl
            · by_cases c : off ≤ j ∧ j < off + q
              · rw [if_pos c, if_pos (by omega)]
              · rw [if_neg c, if_neg (by omega)]
      · refine hJ _ ?_
        have hli : li.getD (off + q) false = true := by
          have := hi2 (off + q)
          rw [hf] at this
          have h0 : (decide (off ≤ off + q) && decide (off + q < off + q)) = false := by simp
          rw [h0, Bool.or_false] at this
          exact this.symm
        refine ⟨⟨q + 1, b2, i2, wr_succ (by omega), by omega, U2, H2, hb2, fun j => ?_, fun j => ?_⟩, by rw [wr_succ (by omega)]; (try dsimp only); omega⟩
        · rw [hi2 j]
          by_cases ej : j = off + q
          · subst ej; rw [hli]; rfl
          · congr 1
            rw [Bool.eq_iff_iff]
            simp
            omega
        · rw [hv2 j]
          split
          · rfl
          · rename_i hn
            have ej : j ≠ off + q := fun e' => hn (by rw [e', hli])
            by_cases c : off ≤ j ∧ j < off + q
            · rw [if_pos c, if_pos (by omega)]
            · rw [if_neg c, if_neg (by omega)]
    · have hql : q = l.length := by omega
      subst hql
      have lay : LayR lb li off l b2 i2 := ⟨by rw [hb2, hm2], hi2, hv2⟩
      have same : ¬ (more = false ∧ e < 0) → R (.tuple []) w2 := fun hc => k B1 I1 b2 i2 w2 U2 (by rw [if_neg hc]; exact H2) sub1 lay
      refine brb (fun hmf => ?_) (fun hmf => ?_)
      · have hmf : more = false := by simpa using hmf
        refine ⟨e, H2.box.at_ 2 rfl, brd (fun he => ?_) (fun he => same (fun h => he h.2))⟩
        refine Blk.store (o := 2) (vs := [.int .i64 ((off + l.length : Nat) : Int)]) H2.box (by simp) (by simp) fun w3 box3 u3 => ?_
        have box3 : Blk w3 sb [B1.val, I1.val, .int .i64 ((off + l.length : Nat) : Int)] := box3
        have offs : ∀ {g : Sl}, sb ∉ g.blk → ∀ x ∈ g.blk, x ∉ [sb] := fun h x hx hm => by simp at hm; exact h (hm ▸ hx)
        refine k B1 I1 b2 i2 w3 (U2.step u3 (fun x hx => by simp at hx; subst hx; exact (sub1 x (by simp [shB])).symm)) ?_ sub1 lay
        rw [if_pos ⟨hmf, he⟩]
        exact ⟨box3, H2.b.upd u3 (offs H2.d1), H2.bo.upd u3 (offs H2.d1), H2.i.upd u3 (offs H2.d2), H2.io.upd u3 (offs H2.d2), H2.d1, H2.d2, H2.d3, H2.le, H2.len, H2.byt⟩
      · have hmf : more = true := by simpa using hmf
        exact same (fun h => by rw [hmf] at h; cases h.1)
end
end Go.Vc.Stop
end

section
open Go Go.Vc Go.Proofs
set_option linter.unusedVariables false
set_option linter.unusedSimpArgs false
set_option autoImplicit false
namespace Go.Vc.Stop
def fullV (lb : List Int) (li : List Bool) (e : Int) : Bool := decide (0 ≤ e) && (decide (e ≤ lb.length) && (List.range e.toNat).all fun j => li.getD j false)
section
variable {N sb : Nat} {w : World} {lb : List Int} {li : List Bool} {e : Int} {B I : Sl} {R : SV → World → Prop}
theorem c10 (H : Sht N w sb lb li e B I) (hlb : lb.length ≤ 1000000) (k : ∀ w1, Upd [] [] w w1 → R (.bool (fullV lb li e)) w1) : Ret Try.prog 10 [.ptr (some ⟨sb, 0, none⟩)] w R := by
  refine f10_of _ _ _ ?_
  unfold vc10
  dsimp only [deref]
  have bl := H.b.len
  have il := H.i.len
  have ll := H.len
  intro J hJ
  refine ⟨e, H.box.at_ 2 rfl, brd (fun he w1 u1 => ?_) (fun he => ⟨B, H.box.at0 rfl, e, H.box.at_ 2 rfl, brd (fun hlt w1 u1 => ?_) (fun hge w1 u1 => hJ _ ?_)⟩)⟩
  · have := k w1 u1
    unfold fullV at this
    rw [decide_eq_false (by omega), Bool.false_and] at this
    exact this
  · have := k w1 u1
    unfold fullV at this
    rw [decide_eq_false (show ¬ e ≤ lb.length by omega), Bool.false_and, Bool.and_false] at this
    exact this
  · clear hJ
    have hx : fullV lb li e = (List.range e.toNat).all fun j => li.getD j false := by
      unfold fullV
      rw [decide_eq_true (show 0 ≤ e by omega), decide_eq_true (show e ≤ lb.length by omega), Bool.true_and, Bool.true_and]
    refine ⟨fun n w' => ∃ q : Nat, n = q ∧ (q : Int) ≤ e ∧ Upd [] [] w w' ∧ ∀ j, j < q → li.getD j false = true, fun n _ => (e - n).toNat, ⟨0, rfl, by omega, u1, fun j hj => by omega⟩, ?_⟩
    rintro n w2 ⟨q, rfl, hq, U2, hall⟩
    have H2 := H.old U2
    refine ⟨e, H2.box.at_ 2 rfl, brd (fun hlt => ?_) (fun hge2 => ?_)⟩
    · obtain ⟨c1, c2⟩ := blC H2.i q (by omega)
      refine ⟨I, H2.box.at_ 1 rfl, needIx (by omega) (by omega) c2 ⟨_, by rw [Int.toNat_natCast]; exact c1, brn (fun hf => ?_) (fun hf => ?_)⟩⟩
      · have := k w2 U2
        have e0 : fullV lb li e = false := by
          rw [hx, Bool.eq_false_iff]
          intro h
          rw [List.all_eq_true] at h
          have := h q (by simp; omega)
          rw [hf] at this
          cases this
        rwa [e0] at this
      · exact ⟨⟨q + 1, wr_succ (by omega), by omega, U2, fun j hj => by
          by_cases ej : j = q
          · rw [ej]; exact hf
          · exact hall j (by omega)⟩, by rw [wr_succ (by omega)]; (try dsimp only); omega⟩
    · have := k w2 U2
      have e1 : fullV lb li e = true := by
        rw [hx, List.all_eq_true]
        intro j hj
        exact hall j (by simp at hj; omega)
      rwa [e1] at this
theorem c11 {a b : Sl} {la lb : List Int} {w : World} {R : SV → World → Prop} (ha : SeesB w a la) (hb : SeesB w b lb) (ba : Byt la) (bb : Byt lb) (k : R (.bool (decide (la = lb))) w) : Ret Try.prog 11 [.slice a, .slice b] w R := by
  refine f11_of _ _ _ _ ?_
  unfold vc11
  exact alike (R := fun x => R (.bool x) w) ha hb ba bb k
theorem c5 {mx tk : Int} (h1 : 1 ≤ mx ∧ mx ≤ 256) (h2 : 1 ≤ tk ∧ tk ≤ 1048576) (k : ∀ t mb w1, Upd [] [] w w1 → TbAt w.heap.size w1 t ⟨mx, tk, 0, []⟩ [t, mb] → w.heap.size ≤ t → w.heap.size ≤ mb → R (.tuple [.ptr (some ⟨t, 0, none⟩), .int .i64 0]) w1) : Ret Try.prog 5 [.int .i64 mx, .int .i64 tk] w R := by
  refine f5_of _ _ _ _ ?_
  unfold vc5
  intro J hJ
  refine brd (fun h => by omega) (fun _ => brd (fun h => by omega) (fun _ => brd (fun h => by omega) (fun _ => brd (fun h => by omega) (fun _ => hJ _ ?_))))
  clear hJ
  intro mb w1 u1 hm t w2 u2 hr2
  have n1 := u1.new (b := mb) (by simp)
  have n2 := u2.new (b := t) (by simp)
  have bT := Blk.row (L := [.int .i64 mx, .int .i64 tk, .int .i64 0, .map (some mb)]) hr2
  have z1 := u1.size; have z2 := u2.size
  refine k t mb w2 (u1.forget.then u2) ⟨⟨mb, fun x => if x = t then 1 else 2, bT, hm.upd u2 (by simp), ⟨by simp, by simp⟩, ⟨by simp, by dsimp only; rw [if_neg (by omega)]⟩, fun i hi => by simp at hi⟩, fun x hx => ?_, fun i j hi => by simp at hi⟩ (by omega) (by omega)
  simp at hx
  omega
end
end Go.Vc.Stop
end

section
open Go Go.Vc Go.Proofs
set_option linter.unusedVariables false
set_option linter.unusedSimpArgs false
set_option autoImplicit false
namespace Go.Vc.Stop
theorem inG_mem {i : Int} : ∀ {l : List (Int × Int)} {g : Int × Int}, g ∈ l → g.1 ≤ i → i < g.2 → inG i l = true
  | x :: r, g, hg, h1, h2 => by
    simp only [inG]
    rcases List.mem_cons.1 hg with rfl | hg
    · simp [h1, h2]
    · rw [inG_mem hg h1 h2]; simp
theorem newN_nonneg {top off e : Int} (hoe : off < e) : ∀ {l : List (Int × Int)} {b : Int}, Rise top b l → 0 ≤ newN off e l
  | [], _, _ => by simp [newN]
  | g :: r, b, ⟨h1, h2, h3, h4⟩ => by
    have ih := newN_nonneg hoe h4
    simp only [newN]
    split
    · omega
    · split
      · exact ih
      · omega
/-- nothing new: all was there -/
theorem newN_zero {top off e i : Int} (hoe : off < e) (h1 : off ≤ i) (h2 : i < e) : ∀ {l : List (Int × Int)} {b : Int}, Rise top b l → newN off e l = 0 → inG i l = false
  | [], _, _, _ => rfl
  | g :: r, b, ⟨a1, a2, a3, a4⟩, h => by
    simp only [newN] at h
    simp only [inG]
    split at h
    · rename_i c
      rw [decide_eq_false (show ¬ g.1 ≤ i by omega), inG_low a4 (by omega)]
      rfl
    · split at h
      · rename_i c1 c2
        rw [decide_eq_false (show ¬ i < g.2 by omega), newN_zero hoe h1 h2 a4 h]
        simp
      · have := newN_nonneg hoe a4
        omega
theorem whole_iff {S : Hs} {tk : List (Int × List Int)} (g : Good S) (f : First S tk) : wholeS S = true ↔ 0 ≤ S.fin ∧ ∀ i, 0 ≤ i → i < S.fin → firstB tk i ≠ none := by
  constructor
  · intro h
    obtain ⟨h1, _, h3⟩ := First.bytes g f h
    exact ⟨h1, fun i h0 hi => by rw [h3 i h0 hi]; simp⟩
  · rintro ⟨h0, hall⟩
    have hb : bnd S = S.fin := by unfold bnd; rw [if_pos h0]
    have hg : S.gaps = [] := by
      cases hgs : S.gaps with
      | nil => rfl
      | cons x r =>
        exfalso
        have ri := g.ri
        rw [hgs] at ri
        obtain ⟨h1, h2, h3, _⟩ := ri
        have := f.hole x.1 (by omega) (by omega)
        rw [hgs, inG_mem (List.mem_cons_self ..) (by omega) h2] at this
        exact hall x.1 (by omega) (by omega) (by
          cases hf : firstB tk x.1 with
          | none => rfl
          | some v => rw [hf] at this; cases this)
    unfold wholeS
    rw [hg]
    simp [h0]
/-- the sheet says what the pieces say -/
structure ShR (tk : List (Int × List Int)) (lb : List Int) (li : List Bool) : Prop where
  i : ∀ j : Nat, li.getD j false = (firstB tk (j : Int)).isSome
  b : ∀ (j : Nat) v, firstB tk (j : Int) = some v → lb.getD j 0 = v
  out : ∀ j : Nat, lb.length ≤ j → firstB tk (j : Int) = none
  last : lb.length = 0 ∨ (firstB tk ((lb.length - 1 : Nat) : Int)).isSome = true
theorem ShR.nil : ShR [] [] [] := ⟨fun j => by simp [firstB], fun j v h => by simp [firstB] at h, fun j _ => rfl, .inl rfl⟩
section
variable {tk : List (Int × List Int)} {lb lb' : List Int} {li li' : List Bool} {l : List Int}
theorem snoc_at {off : Nat} (j : Nat) : firstB (tk ++ [((off : Int), l)]) (j : Int) = match firstB tk (j : Int) with | some v => some v | none => if off ≤ j ∧ j < off + l.length then some (l.getD (j - off) 0) else none := by
  rw [firstB_snoc]
  cases firstB tk (j : Int) with
  | some v => rfl
  | none =>
    dsimp only
    by_cases c : off ≤ j ∧ j < off + l.length
    · rw [if_pos c, if_pos (by omega)]
      unfold bt
      rw [show (((j : Int) - (off : Int)).toNat) = j - off by omega]
    · rw [if_neg c, if_neg (by omega)]
theorem ShR.lay {off : Nat} (h : ShR tk lb li) (y : LayR lb li off l lb' li') (hl : 0 < l.length) : ShR (tk ++ [((off : Int), l)]) lb' li' := by
  refine ⟨fun j => ?_, fun j v hv => ?_, fun j hj => ?_, .inr ?_⟩
  · rw [y.i j, h.i j, snoc_at]
    cases firstB tk (j : Int) with
    | some v => rfl
    | none =>
      dsimp only
      by_cases c : off ≤ j ∧ j < off + l.length
      · rw [if_pos c]; simp [c.1, c.2]
      · rw [if_neg c]
        have : (decide (off ≤ j) && decide (j < off + l.length)) = false := by simp; omega
        rw [this]; rfl
  · rw [snoc_at] at hv
    rw [y.b j, h.i j]
    cases hf : firstB tk (j : Int) with
    | some u =>
      rw [hf] at hv
      have hv : some u = some v := hv
      rw [if_pos (by rfl), h.b j u hf]
      exact Option.some.inj hv
    | none =>
      rw [hf] at hv
      dsimp only at hv
      rw [if_neg (by simp)]
      split at hv
      · rename_i c
        rw [if_pos c]
        exact Option.some.inj hv
      · cases hv
  · have hl' := y.len
    rw [snoc_at, h.out j (by omega)]
    dsimp only
    rw [if_neg (by omega)]
  · have hl' := y.len
    rw [snoc_at]
    by_cases c : off + l.length ≤ lb.length
    · have e : lb'.length - 1 = lb.length - 1 := by omega
      rw [e]
      rcases h.last with q | q
      · omega
      · cases hf : firstB tk ((lb.length - 1 : Nat) : Int) with
        | some v => rfl
        | none => rw [hf] at q; cases q
    · cases firstB tk ((lb'.length - 1 : Nat) : Int) with
      | some v => rfl
      | none =>
        dsimp only
        rw [if_pos (by omega)]
        rfl
/-- a piece of which all was there -/
theorem ShR.dup {off : Nat} (h : ShR tk lb li) (hd : ∀ j : Nat, off ≤ j → j < off + l.length → firstB tk (j : Int) ≠ none) : ShR (tk ++ [((off : Int), l)]) lb li := by
  have e : ∀ j : Nat, firstB (tk ++ [((off : Int), l)]) (j : Int) = firstB tk (j : Int) := fun j => by
    rw [snoc_at]
    cases hf : firstB tk (j : Int) with
    | some v => rfl
    | none =>
      dsimp only
      rw [if_neg (fun c => hd j c.1 c.2 hf)]
  exact ⟨fun j => by rw [e j]; exact h.i j, fun j v hv => by rw [e j] at hv; exact h.b j v hv, fun j hj => by rw [e j]; exact h.out j hj, by
    rcases h.last with q | q
    · exact .inl q
    · exact .inr (by rw [e]; exact q)⟩
theorem ShR.top {S : Hs} (h : ShR tk lb li) (g : Good S) (f : First S tk) (h0 : S.fin < 0) (hle : lb.length ≤ S.max) : lb.length ≤ topS S := by
  unfold topS
  cases hg : S.gaps.getLast? with
  | none => exact hle
  | some y =>
    dsimp only
    split
    · rename_i e
      rcases h.last with q | q
      · rw [q]
        have hy : y ∈ S.gaps := List.mem_of_getLast? hg
        have := (g.ri.mem y hy).1
        omega
      · have hb : bnd S = S.max := by unfold bnd; rw [if_neg (by omega)]
        have hy : y ∈ S.gaps := List.mem_of_getLast? hg
        refine Decidable.byContradiction fun hn => ?_
        by_cases z : lb.length = 0
        · have := (g.ri.mem y hy).1; omega
        have := f.hole ((lb.length - 1 : Nat) : Int) (by omega) (by omega)
        rw [inG_mem hy (by omega) (by omega)] at this
        cases hf : firstB tk ((lb.length - 1 : Nat) : Int) with
        | none => rw [hf] at q; cases q
        | some v => rw [hf] at this; cases this
    · exact hle
end
theorem fullV_iff {tk : List (Int × List Int)} {lb : List Int} {li : List Bool} {e : Int} (h : ShR tk lb li) (hle : 0 ≤ e → lb.length ≤ e) : fullV lb li e = true ↔ 0 ≤ e ∧ ∀ i, 0 ≤ i → i < e → firstB tk i ≠ none := by
  unfold fullV
  simp only [Bool.and_eq_true, decide_eq_true_eq, List.all_eq_true, List.mem_range]
  constructor
  · rintro ⟨h0, h1, h2⟩
    refine ⟨h0, fun i hi hlt => ?_⟩
    have := h2 i.toNat (by omega)
    rw [h.i, Int.toNat_of_nonneg hi] at this
    intro hn
    rw [hn] at this; cases this
  · rintro ⟨h0, hall⟩
    refine ⟨h0, ?_, fun j hj => ?_⟩
    · refine Decidable.byContradiction fun hn => ?_
      exact hall lb.length (by omega) (by omega) (h.out lb.length (Nat.le_refl _))
    · rw [h.i]
      cases hf : firstB tk (j : Int) with
      | none => exact absurd hf (hall j (by omega) (by omega))
      | some v => rfl
/-- a piece that was taken -/
theorem lay_step {S : Hs} {tk : List (Int × List Int)} {lb lb' : List Int} {li li' : List Bool} {l : List Int} {off : Int} {mf : Bool} (g : Good S) (f : First S tk) (mx : S.max = 65515) (sh : ShR tk lb li) (hle : lb.length ≤ 65515) (hlee : 0 ≤ S.fin → (lb.length : Int) ≤ S.fin)
    (he : errS S off l.length mf = 0) (hb : Byt l) (y : LayR lb li off.toNat l lb' li') :
    ShR (tk ++ [(off, l)]) lb' li' ∧ lb'.length ≤ 65515 ∧ (0 ≤ (putS S off l mf).fin → (lb'.length : Int) ≤ (putS S off l mf).fin) ∧ 0 < lb'.length ∧ (if mf = false ∧ S.fin < 0 then ((off.toNat + l.length : Nat) : Int) else S.fin) = (putS S off l mf).fin ∧
    fullV lb' li' (putS S off l mf).fin = wholeS (putS S off l mf) ∧ (wholeS (putS S off l mf) = true → (putS S off l mf).buf.take (putS S off l mf).fin.toNat = lb') := by
  obtain ⟨p1, p2, p3, p4, p5, p6, p7, p8, p9⟩ := errS_ok he
  have eo : ((off.toNat : Nat) : Int) = off := Int.toNat_of_nonneg p2
  have sh' : ShR (tk ++ [(off, l)]) lb' li' := by
    have := sh.lay y p5
    rwa [eo] at this
  have hl := y.len
  have efin : (if mf = false ∧ S.fin < 0 then ((off.toNat + l.length : Nat) : Int) else S.fin) = (putS S off l mf).fin := by
    show _ = (if mf = false ∧ S.fin < 0 then off + (l.length : Int) else S.fin)
    split
    · omega
    · rfl
  have hl1 : lb'.length ≤ 65515 := by omega
  have hl2 : 0 ≤ (putS S off l mf).fin → (lb'.length : Int) ≤ (putS S off l mf).fin := by
    rw [← efin]
    split
    · rename_i c
      intro _
      have := sh.top g f c.2 (by omega)
      have := p9 c.2 c.1
      omega
    · rename_i c
      intro h0
      have := hlee h0
      cases mf with
      | false => have := p7 h0 rfl; omega
      | true => have := p8 h0 rfl; omega
  have g' : Good (putS S off l mf) := g.put he hb
  have f' : First (putS S off l mf) (tk ++ [(off, l)]) := f.put g he hb
  refine ⟨sh', hl1, hl2, by omega, efin, ?_, fun hw => ?_⟩
  · rw [Bool.eq_iff_iff, fullV_iff sh' hl2, whole_iff g' f']
  · obtain ⟨w1, w2, w3⟩ := First.bytes g' f' hw
    have hall := (whole_iff g' f').1 hw
    have hlen : ((lb'.length : Nat) : Int) = (putS S off l mf).fin := by
      have := hl2 w1
      refine Decidable.byContradiction fun hn => ?_
      exact hall.2 lb'.length (by omega) (by omega) (sh'.out lb'.length (Nat.le_refl _))
    apply List.ext_getElem
    · rw [List.length_take]; omega
    · intro j h1 h2
      rw [List.getElem_take]
      have hj : (j : Int) < (putS S off l mf).fin := by omega
      have := sh'.b j _ (w3 j (by omega) hj)
      unfold bt at this
      simp only [Int.toNat_natCast, List.getD_eq_getElem?_getD] at this
      rw [List.getElem?_eq_getElem h2, List.getElem?_eq_getElem (by omega)] at this
      simpa using this.symm
end Go.Vc.Stop
end

section
open Go Go.Vc Go.Proofs
set_option linter.unusedVariables false
set_option linter.unusedSimpArgs false
set_option autoImplicit false
namespace Go.Vc.Stop
theorem stC_same (c : Cv) (v : IpV) : (stC c v).S = c.S ∧ (stC c v).tk = c.tk ∧ (stC c v).state = c.state ∧ (stC c v).frags = c.frags ∧ (stC c v).key = c.key := by
  unfold stC
  split <;> exact ⟨rfl, rfl, rfl, rfl, rfl⟩
/-- an open context and the sheet -/
structure Opn (n : Int) (c : Cv) (lb : List Int) (li : List Bool) (e : Int) : Prop where
  st : c.state = 0
  fr : 1 ≤ c.frags ∧ c.frags ≤ n
  g : Good c.S
  f : First c.S c.tk
  mx : c.S.max = 65515
  sh : ShR c.tk lb li
  fin : e = c.S.fin
  le : lb.length ≤ 65515
  lee : 0 ≤ e → (lb.length : Int) ≤ e
  pos : 0 < lb.length
  nw : wholeS c.S = false
/-- how the table and the sheet stand to one another -/
structure Rl (n : Int) (k0 : KeyV) (done : Bool) (T : Tv) (lb : List Int) (li : List Bool) (e : Int) : Prop where
  max : T.max = 2
  key : ∀ c ∈ T.cs, c.key = k0
  le : lb.length ≤ 65515
  cases : (done = true ∧ ∃ c, T.cs = [c] ∧ c.state = 1 ∧ c.frags = 0) ∨ (done = false ∧ T.cs = [] ∧ lb = [] ∧ li = [] ∧ e = -1) ∨ (done = false ∧ ∃ c, T.cs = [c] ∧ Opn n c lb li e) ∨ (done = false ∧ ∃ c, T.cs = [c] ∧ c.state = 2 ∧ 1 ≤ c.frags ∧ c.frags ≤ n ∧ 0 < lb.length)
theorem Rl.mono {n m : Int} {k0 : KeyV} {done : Bool} {T : Tv} {lb : List Int} {li : List Bool} {e : Int} (h : Rl n k0 done T lb li e) (hm : n ≤ m) : Rl m k0 done T lb li e := by
  refine ⟨h.max, h.key, h.le, ?_⟩
  rcases h.cases with q | q | ⟨q, c, h1, h2⟩ | ⟨q, c, h1, h2, h3, h4, h5⟩
  · exact .inl q
  · exact .inr (.inl q)
  · exact .inr (.inr (.inl ⟨q, c, h1, h2.st, ⟨h2.fr.1, by have := h2.fr.2; omega⟩, h2.g, h2.f, h2.mx, h2.sh, h2.fin, h2.le, h2.lee, h2.pos, h2.nw⟩))
  · exact .inr (.inr (.inr ⟨q, c, h1, h2, h3, by omega, h5⟩))
theorem Rl.len {n : Int} {k0 : KeyV} {done : Bool} {T : Tv} {lb : List Int} {li : List Bool} {e : Int} (h : Rl n k0 done T lb li e) : T.cs.length ≤ 1 := by
  rcases h.cases with ⟨_, c, h1, _⟩ | ⟨_, h1, _⟩ | ⟨_, c, h1, _⟩ | ⟨_, c, h1, _⟩ <;> rw [h1] <;> simp
theorem Rl.states {n : Int} {k0 : KeyV} {done : Bool} {T : Tv} {lb : List Int} {li : List Bool} {e : Int} (h : Rl n k0 done T lb li e) : ∀ c ∈ T.cs, c.state = 0 ∨ c.state = 1 ∨ c.state = 2 := by
  intro x hx
  rcases h.cases with ⟨_, c, h1, h2, _⟩ | ⟨_, h1, _⟩ | ⟨_, c, h1, h2⟩ | ⟨_, c, h1, h2, _⟩ <;> rw [h1] at hx
  · simp at hx; subst hx; exact .inr (.inl h2)
  · simp at hx
  · simp at hx; subst hx; exact .inl h2.st
  · simp at hx; subst hx; exact .inr (.inr h2)
theorem Rl.frags {n : Int} {k0 : KeyV} {done : Bool} {T : Tv} {lb : List Int} {li : List Bool} {e : Int} (h : Rl n k0 done T lb li e) (hn : n ≤ 100000) : ∀ c ∈ T.cs, -1000000 ≤ c.frags ∧ c.frags ≤ 1000000 := by
  intro x hx
  rcases h.cases with ⟨_, c, h1, h2, h3⟩ | ⟨_, h1, _⟩ | ⟨_, c, h1, h2⟩ | ⟨_, c, h1, h2, h3, h4, _⟩ <;> rw [h1] at hx
  · simp at hx; subst hx; omega
  · simp at hx
  · simp at hx; subst hx; have := h2.fr; omega
  · simp at hx; subst hx; omega
section
variable {n : Int} {k0 : KeyV} {T T' : Tv} {lb : List Int} {li : List Bool} {e : Int} {v out : IpV} {o e' : Int}
/-- behind the end no fragment is taken -/
theorem step_done (h : Rl n k0 true T lb li e) (hk : keyH v = k0) (hc : ipChk v = 0) (hf : ¬ (v.mf = false ∧ v.off = 0)) (ho : OffR T v T' out o e') : e' = 125 ∧ T' = T := by
  have hcs : ∃ c, T.cs = [c] ∧ c.state = 1 := by
    rcases h.cases with ⟨_, c, h1, h2, _⟩ | ⟨q, _⟩ | ⟨q, _⟩ | ⟨q, _⟩
    · exact ⟨c, h1, h2⟩
    all_goals cases q
  obtain ⟨c, h1, h2⟩ := hcs
  have hkc : c.key = k0 := h.key c (by rw [h1]; simp)
  have r125 : readyV c 125 123 = 125 := by unfold readyV; rw [if_pos h2]
  have each : ∀ i (hi : i < T.cs.length), T.cs[i] = c := fun i hi => by
    have : i = 0 := by rw [h1] at hi; simp at hi; exact hi
    subst this
    simp [h1]
  cases ho with
  | bad hb => exact absurd hc hb
  | plain _ a b => exact absurd ⟨a, b⟩ hf
  | busy i hi _ _ _ _ => rw [each i hi, r125]; exact ⟨rfl, rfl⟩
  | far i hi _ _ _ hr _ => rw [each i hi, r125] at hr; cases hr
  | dup i hi _ _ _ hr _ _ => rw [each i hi, r125] at hr; cases hr
  | more i hi T' out o e _ _ _ hr _ _ _ => rw [each i hi, r125] at hr; cases hr
  | far0 _ _ no _ => exact absurd (by rw [hkc, hk]) (no c (by rw [h1]; simp))
  | dup0 _ _ no _ _ => exact absurd (by rw [hkc, hk]) (no c (by rw [h1]; simp))
  | more0 p T' out o e _ _ no _ _ _ => exact absurd (by rw [hkc, hk]) (no c (by rw [h1]; simp))
theorem chk_fr (hc : ipChk v = 0) : 0 ≤ v.off ∧ v.off % 8 = 0 ∧ v.off + v.data.length ≤ 65515 ∧ (v.mf = true → v.data.length % 8 = 0 ∧ 0 < v.data.length) := by
  obtain ⟨_, _, h3, _, _, _, _, _, _, h10⟩ := ipChk_ok hc
  unfold frag at h10
  refine ⟨h3.1, h3.2.2, by omega, fun hm => ?_⟩
  by_cases c : (v.data.length : Int) = 0 ∨ (v.data.length : Int) % 8 ≠ 0
  · exact absurd (.inl ⟨hm, c⟩) h10
  · omega
theorem new_ok (hc : ipChk v = 0) (hl : 0 < v.data.length) : errS newS v.off v.data.length v.mf = 0 := by
  obtain ⟨h1, h2, h3, h4⟩ := chk_fr hc
  unfold errS
  rw [if_neg (by omega), if_neg (by
    rw [tmod_pos h1]
    rintro (h | h | ⟨h, h'⟩)
    · omega
    · omega
    · have := (h4 h).1; omega), if_neg (by omega), if_neg (by simp only [newS]; omega), if_neg (by simp only [newS]; omega), if_neg (by simp only [newS]; omega), if_neg ?_]
  rintro ⟨_, _, h⟩
  have : topS newS = 0 := by simp [topS, newS]
  omega
theorem lerr_ne {x : Int} (h : x ≠ 0) : lerr x ≠ 0 := by
  unfold lerr
  split
  · decide
  · exact h
/-- a fragment is offered, and the datagram is not whole yet -/
theorem step_law (h : Rl n k0 false T lb li e) (hn : n ≤ 1000) (hn0 : 0 ≤ n) (hk : keyH v = k0) (hc : ipChk v = 0) (hf : ¬ (v.mf = false ∧ v.off = 0)) (hb : Byt v.data) (ho : OffR T v T' out o e') :
    (e' ≠ 0 ∧ Rl (n + 1) k0 false T' lb li e ∧ (lb.length = 0 → ¬ 0 < v.data.length) ∧ (0 ≤ e → frs T'.cs ≠ 0)) ∨
    (e' = 0 ∧ 0 < v.data.length ∧ ∀ lb' li', LayR lb li v.off.toNat v.data lb' li' → (0 ≤ (if v.mf = false ∧ e < 0 then ((v.off.toNat + v.data.length : Nat) : Int) else e) → (lb'.length : Int) ≤ (if v.mf = false ∧ e < 0 then ((v.off.toNat + v.data.length : Nat) : Int) else e)) ∧
      ((o ≠ 1 ∧ fullV lb' li' (if v.mf = false ∧ e < 0 then ((v.off.toNat + v.data.length : Nat) : Int) else e) = false ∧ Rl (n + 1) k0 false T' lb' li' (if v.mf = false ∧ e < 0 then ((v.off.toNat + v.data.length : Nat) : Int) else e)) ∨
       (o = 1 ∧ fullV lb' li' (if v.mf = false ∧ e < 0 then ((v.off.toNat + v.data.length : Nat) : Int) else e) = true ∧ out.data = lb' ∧ out.mf = false ∧ out.off = 0 ∧ frs T'.cs = 0 ∧ Rl (n + 1) k0 true T' lb' li' (if v.mf = false ∧ e < 0 then ((v.off.toNat + v.data.length : Nat) : Int) else e)))) := by
  have hR := h
  rcases h.cases with ⟨q, _⟩ | ⟨_, h1, rfl, rfl, rfl⟩ | ⟨_, c, h1, h2⟩ | ⟨_, c, h1, h2, h3, h4, h5⟩
  · cases q
  · -- the first one
    cases ho with
    | bad hb => exact absurd hc hb
    | plain _ a b => exact absurd ⟨a, b⟩ hf
    | busy i hi => rw [h1] at hi; simp at hi
    | far i hi => rw [h1] at hi; simp at hi
    | dup i hi => rw [h1] at hi; simp at hi
    | more i hi => rw [h1] at hi; simp at hi
    | far0 _ _ no he =>
      refine .inl ⟨lerr_ne he, hR.mono (by omega), fun _ hl => he (new_ok hc hl), fun h0 => by omega⟩
    | dup0 _ _ no he hd =>
      exfalso
      obtain ⟨p1, p2, p3, p4, p5, p6, _⟩ := errS_ok he
      have := hd.1
      simp only [newS, newN] at this
      have hm : (newS).max = 65515 := rfl
      rw [if_neg (by omega), if_neg (by omega)] at this
      omega
    | more0 p T' out o e'' _ _ no he hd ha =>
      right
      obtain ⟨p1, p2, p3, p4, p5, p6, _⟩ := errS_ok he
      have hS := stC_same (incC { putC (newC (keyH v) T.ticks p) v.off v.data v.mf with began := T.begun }) v
      generalize hc2 : stC (incC { putC (newC (keyH v) T.ticks p) v.off v.data v.mf with began := T.begun }) v = c2 at ha hS
      obtain ⟨s1, s2, s3, s4, s5⟩ := hS
      have s1 : c2.S = putS newS v.off v.data v.mf := s1
      have s2 : c2.tk = [] ++ [(v.off, v.data)] := s2
      have s3 : c2.state = 0 := s3
      have s4 : c2.frags = 1 := by rw [s4]; show wr .i64 (0 + 1) = 1; rw [wr_i64 (by omega) (by omega)]; rfl
      have s5 : c2.key = keyH v := s5
      have gn : Good newS := Good.new (by decide) (by decide)
      have fn : First newS [] := First.new (by decide)
      have hset : (T.cs ++ [incC { putC (newC (keyH v) T.ticks p) v.off v.data v.mf with began := T.begun }]).set T.cs.length c2 = [c2] := by rw [h1]; rfl
      have notw : wholeS c2.S = true → False := fun hw => by
        rw [s1] at hw
        have g' := gn.put he hb
        have f' := fn.put gn he hb
        obtain ⟨w1, w2⟩ := (whole_iff g' f').1 hw
        have hfin : (putS newS v.off v.data v.mf).fin = if v.mf = false ∧ newS.fin < 0 then v.off + (v.data.length : Int) else newS.fin := rfl
        cases hmf : v.mf with
        | true =>
          rw [hmf, if_neg (by simp)] at hfin
          rw [hmf, hfin] at w1
          exact absurd w1 (by decide)
        | false =>
          have hne : v.off ≠ 0 := fun e0 => hf ⟨hmf, e0⟩
          rw [hfin, if_pos ⟨hmf, by decide⟩] at w1 w2
          refine w2 0 (by omega) (by omega) ?_
          simp only [List.nil_append, firstB]
          rw [if_neg (by omega)]
      cases ha with
      | bad hw _ => exact (notw hw).elim
      | whole hw _ => exact (notw hw).elim
      | held hw =>
        refine ⟨rfl, p5, fun lb' li' y => ?_⟩
        obtain ⟨a1, a2, a3, a4, a5, a6, _⟩ := lay_step (S := newS) (tk := []) gn fn rfl ShR.nil (by simp) (by intro h; simp [newS] at h) he hb y
        have a5 : (if v.mf = false ∧ (-1 : Int) < 0 then ((v.off.toNat + v.data.length : Nat) : Int) else -1) = (putS newS v.off v.data v.mf).fin := a5
        rw [a5]
        rw [s1] at hw
        refine ⟨a3, .inl ⟨by decide, by rw [a6]; exact hw, hR.max, fun c hc' => ?_, a2, .inr (.inr (.inl ⟨rfl, c2, hset, s3, ⟨by omega, by omega⟩, by rw [s1]; exact gn.put he hb, by rw [s1, s2]; exact fn.put gn he hb, by rw [s1]; rfl, by rw [s2]; exact a1, by rw [s1], a2, a3, a4, by rw [s1]; exact hw⟩))⟩⟩
        have hc' : c ∈ (T.cs ++ [incC { putC (newC (keyH v) T.ticks p) v.off v.data v.mf with began := T.begun }]).set T.cs.length c2 := hc'
        rw [hset] at hc'
        simp at hc'
        subst hc'
        rw [s5, hk]
  · -- one more
    have hkc : c.key = k0 := h.key c (by rw [h1]; simp)
    have ready0 : readyV c 125 123 = 0 := by
      unfold readyV
      rw [if_neg (by rw [h2.st]; decide), if_neg (by rw [h2.st]; decide), if_neg (by have := h2.fr; omega)]
    have hfin := h2.fin
    subst hfin
    have hpos := h2.pos
    have each : ∀ i (hi : i < T.cs.length), i = 0 ∧ T.cs[i] = c := fun i hi => by
      have : i = 0 := by rw [h1] at hi; simp at hi; exact hi
      subst this
      exact ⟨rfl, by simp [h1]⟩
    cases ho with
    | bad hb => exact absurd hc hb
    | plain _ a b => exact absurd ⟨a, b⟩ hf
    | busy i hi _ _ _ hr => rw [(each i hi).2] at hr; exact absurd ready0 hr
    | far i hi _ _ _ _ he =>
      refine .inl ⟨lerr_ne he, hR.mono (by omega), fun h0 => by omega, fun _ => ?_⟩
      rw [h1]
      have := h2.fr.1
      simp only [frs]; omega
    | dup i hi _ _ _ _ he hd =>
      obtain ⟨rfl, ec⟩ := each i hi
      rw [ec] at he hd
      obtain ⟨p1, p2, p3, p4, p5, p6, _⟩ := errS_ok he
      have hset : T.cs.set 0 (putC T.cs[0] v.off v.data v.mf) = [putC c v.off v.data v.mf] := by
        rw [ec]; simp [h1]
      have hfr := h2.fr
      have eo : ((v.off.toNat : Nat) : Int) = v.off := Int.toNat_of_nonneg p2
      have hin : ∀ j : Nat, v.off.toNat ≤ j → j < v.off.toNat + v.data.length → firstB c.tk (j : Int) ≠ none := fun j j1 j2 => by
        have hG := newN_zero (off := v.off) (e := v.off + v.data.length) (i := (j : Int)) (by omega) (by omega) (by omega) h2.g.ri hd.1
        have hbd : (j : Int) < bnd c.S := by
          unfold bnd
          have := h2.mx
          split
          · rename_i hfz
            obtain ⟨_, _, _, _, _, q6, q7, q8, _⟩ := errS_ok he
            cases hm : v.mf with
            | false => have := q7 hfz hm; omega
            | true => have := q8 hfz hm; omega
          · omega
        have := h2.f.hole (j : Int) (by omega) hbd
        rw [hG] at this
        intro hn
        rw [hn] at this
        cases this
      have sh' : ShR (putC c v.off v.data v.mf).tk lb li := by
        have := h2.sh.dup (off := v.off.toNat) (l := v.data) hin
        rw [eo] at this
        exact this
      have hfin' : (putC c v.off v.data v.mf).S.fin = c.S.fin := by
        have e0 : (putS c.S v.off v.data v.mf).fin = if v.mf = false ∧ c.S.fin < 0 then v.off + (v.data.length : Int) else c.S.fin := rfl
        show (putS c.S v.off v.data v.mf).fin = _
        rw [e0]
        split
        · rename_i hcc
          exfalso
          have hE := hd.2
          unfold endF at hE
          rw [e0, if_pos hcc, decide_eq_true (show v.off + (v.data.length : Int) ≥ 0 by omega), decide_eq_false (show ¬ c.S.fin ≥ 0 by omega)] at hE
          cases hE
        · rfl
      have g' : Good (putC c v.off v.data v.mf).S := h2.g.put he hb
      have f' : First (putC c v.off v.data v.mf).S (putC c v.off v.data v.mf).tk := h2.f.put h2.g he hb
      have hw' : wholeS (putC c v.off v.data v.mf).S = false := by
        have hw := h2.nw
        rw [Bool.eq_false_iff] at hw ⊢
        intro hx
        apply hw
        rw [whole_iff h2.g h2.f]
        obtain ⟨x1, x2⟩ := (whole_iff g' f').1 hx
        rw [hfin'] at x1 x2
        refine ⟨x1, fun i hi0 hi1 hnone => x2 i hi0 hi1 ?_⟩
        have e1 : (putC c v.off v.data v.mf).tk = c.tk ++ [(((v.off.toNat : Nat) : Int), v.data)] := by rw [eo]; rfl
        rw [e1]
        have := snoc_at (tk := c.tk) (l := v.data) (off := v.off.toNat) i.toNat
        rw [Int.toNat_of_nonneg hi0] at this
        rw [this, hnone]
        dsimp only
        rw [if_neg (fun cc => hin i.toNat cc.1 cc.2 (by rw [Int.toNat_of_nonneg hi0]; exact hnone))]
      refine .inl ⟨by decide, ⟨hR.max, fun x hx => ?_, hR.le, .inr (.inr (.inl ⟨rfl, _, hset, h2.st, ⟨h2.fr.1, by show c.frags ≤ n + 1; omega⟩, g', f', h2.mx, sh', hfin'.symm, h2.le, h2.lee, h2.pos, hw'⟩))⟩, fun h0 => by omega, fun _ => ?_⟩
      · have hx : x ∈ T.cs.set 0 (putC T.cs[0] v.off v.data v.mf) := hx
        rw [hset] at hx
        simp at hx
        subst hx
        exact hkc
      · show frs (T.cs.set 0 (putC T.cs[0] v.off v.data v.mf)) ≠ 0
        rw [hset]
        simp only [frs, putC]; omega
    | more i hi T' out o e'' _ _ _ _ he hd ha =>
      obtain ⟨rfl, ec⟩ := each i hi
      rw [ec] at he hd ha
      obtain ⟨p1, p2, p3, p4, p5, p6, _⟩ := errS_ok he
      have hS := stC_same (incC (putC c v.off v.data v.mf)) v
      generalize hc2 : stC (incC (putC c v.off v.data v.mf)) v = c2 at ha hS
      obtain ⟨s1, s2, s3, s4, s5⟩ := hS
      have hfr := h2.fr
      have s1 : c2.S = putS c.S v.off v.data v.mf := s1
      have s2 : c2.tk = c.tk ++ [(v.off, v.data)] := s2
      have s3 : c2.state = 0 := s3.trans h2.st
      have s4 : c2.frags = c.frags + 1 := by rw [s4]; show wr .i64 (c.frags + 1) = _; rw [wr_i64 (by omega) (by omega)]
      have s5 : c2.key = c.key := s5
      have g' : Good c2.S := by rw [s1]; exact h2.g.put he hb
      have f' : First c2.S c2.tk := by rw [s1, s2]; exact h2.f.put h2.g he hb
      have hset : ∀ c3 : Cv, ((T.cs.set 0 (incC (putC c v.off v.data v.mf))).set 0 c3) = [c3] := fun c3 => by simp [h1]
      have lay := fun lb' li' (y : LayR lb li v.off.toNat v.data lb' li') => lay_step h2.g h2.f h2.mx h2.sh h2.le h2.lee he hb y
      cases ha with
      | held hw =>
        refine .inr ⟨rfl, p5, fun lb' li' y => ?_⟩
        obtain ⟨a1, a2, a3, a4, a5, a6, _⟩ := lay lb' li' y
        rw [a5]
        rw [s1] at hw
        refine ⟨a3, .inl ⟨by decide, by rw [a6]; exact hw, hR.max, fun x hx => ?_, a2, .inr (.inr (.inl ⟨rfl, c2, hset c2, s3, ⟨by omega, by omega⟩, g', f', by rw [s1]; exact h2.mx, by rw [s2]; exact a1, by rw [s1], a2, a3, a4, by rw [s1]; exact hw⟩))⟩⟩
        have hx : x ∈ (T.cs.set 0 (incC (putC c v.off v.data v.mf))).set 0 c2 := by rw [← ec]; exact ec ▸ hx
        rw [hset] at hx
        simp at hx
        subst hx
        rw [s5]; exact hkc
      | bad hw _ =>
        refine .inl ⟨by decide, ⟨hR.max, fun x hx => ?_, hR.le, .inr (.inr (.inr ⟨rfl, _, hset _, rfl, ?_, ?_, hpos⟩))⟩, fun h0 => by omega, fun _ => ?_⟩
        · have hx : x ∈ (T.cs.set 0 (incC (putC c v.off v.data v.mf))).set 0 { endC c2 2 with why := 123, frags := wr .i64 (c2.frags - 1) } := by rw [← ec]; exact ec ▸ hx
          rw [hset] at hx
          simp at hx
          subst hx
          show c2.key = k0
          rw [s5]; exact hkc
        · show 1 ≤ wr .i64 (c2.frags - 1)
          rw [s4, wr_i64 (by omega) (by omega)]; omega
        · show wr .i64 (c2.frags - 1) ≤ n + 1
          rw [s4, wr_i64 (by omega) (by omega)]; omega
        · have : frs ((T.cs.set 0 (incC (putC c v.off v.data v.mf))).set 0 { endC c2 2 with why := 123, frags := wr .i64 (c2.frags - 1) }) ≠ 0 := by
            rw [hset]
            show wr .i64 (c2.frags - 1) ≠ 0
            rw [s4, wr_i64 (by omega) (by omega)]; omega
          exact ec ▸ this
      | whole hw _ =>
        refine .inr ⟨rfl, p5, fun lb' li' y => ?_⟩
        obtain ⟨a1, a2, a3, a4, a5, a6, a7⟩ := lay lb' li' y
        rw [a5]
        have hw2 : wholeS (putS c.S v.off v.data v.mf) = true := by rw [← s1]; exact hw
        refine ⟨a3, .inr ⟨rfl, by rw [a6]; exact hw2, ?_, rfl, rfl, ?_, hR.max, fun x hx => ?_, a2, .inl ⟨rfl, _, hset _, rfl, rfl⟩⟩⟩
        · show c2.S.buf.take c2.S.fin.toNat = lb'
          rw [s1]; exact a7 hw2
        · have : frs ((T.cs.set 0 (incC (putC c v.off v.data v.mf))).set 0 { endC c2 1 with frags := 0 }) = 0 := by rw [hset]; rfl
          exact ec ▸ this
        · have hx : x ∈ (T.cs.set 0 (incC (putC c v.off v.data v.mf))).set 0 { endC c2 1 with frags := 0 } := by rw [← ec]; exact ec ▸ hx
          rw [hset] at hx
          simp at hx
          subst hx
          show c2.key = k0
          rw [s5]; exact hkc
    | far0 _ _ no _ => exact absurd (by rw [hkc, hk]) (no c (by rw [h1]; simp))
    | dup0 _ _ no _ _ => exact absurd (by rw [hkc, hk]) (no c (by rw [h1]; simp))
    | more0 p T' out o e _ _ no _ _ _ => exact absurd (by rw [hkc, hk]) (no c (by rw [h1]; simp))
  · -- spoilt
    have hkc : c.key = k0 := h.key c (by rw [h1]; simp)
    have ready2 : readyV c 125 123 = 123 := by
      unfold readyV
      rw [if_neg (by rw [h2]; decide), if_pos h2]
    have each : ∀ i (hi : i < T.cs.length), T.cs[i] = c := fun i hi => by
      have : i = 0 := by rw [h1] at hi; simp at hi; exact hi
      subst this
      simp [h1]
    cases ho with
    | bad hb => exact absurd hc hb
    | plain _ a b => exact absurd ⟨a, b⟩ hf
    | busy i hi _ _ _ hr =>
      refine .inl ⟨hr, hR.mono (by omega), fun h0 => by omega, fun _ => ?_⟩
      rw [h1]
      simp only [frs]; omega
    | far i hi _ _ _ hr _ => rw [each i hi, ready2] at hr; cases hr
    | dup i hi _ _ _ hr _ _ => rw [each i hi, ready2] at hr; cases hr
    | more i hi T' out o e _ _ _ hr _ _ _ => rw [each i hi, ready2] at hr; cases hr
    | far0 _ _ no _ => exact absurd (by rw [hkc, hk]) (no c (by rw [h1]; simp))
    | dup0 _ _ no _ _ => exact absurd (by rw [hkc, hk]) (no c (by rw [h1]; simp))
    | more0 p T' out o e _ _ no _ _ _ => exact absurd (by rw [hkc, hk]) (no c (by rw [h1]; simp))
end
end Go.Vc.Stop
end

section
open Go Go.Vc Go.Proofs
set_option linter.unusedVariables false
set_option linter.unusedSimpArgs false
set_option autoImplicit false
namespace Go.Vc.Stop
theorem c9' {N sb : Nat} {w : World} {lb : List Int} {li : List Bool} {e : Int} {B I : Sl} {R : SV → World → Prop} {off : Int} {data : Sl} {l : List Int} {more : Bool} (h0 : 0 ≤ off) (H : Sht N w sb lb li e B I) (hN : N ≤ w.heap.size) (hd : SeesB w data l) (hb : Byt l) (hdis : ∀ x ∈ data.blk, x < w.heap.size ∧ x ∉ shB sb B I) (hl : off + l.length ≤ 1000000) (hlb : lb.length ≤ 1000000)
    (k : ∀ B' I' lb' li' w1, Upd (shB sb B I) [] w w1 → Sht N w1 sb lb' li' (if more = false ∧ e < 0 then ((off.toNat + l.length : Nat) : Int) else e) B' I' → (∀ x ∈ shB sb B' I', x ∈ shB sb B I ∨ w.heap.size ≤ x) → LayR lb li off.toNat l lb' li' → R (.tuple []) w1) :
    Ret Try.prog 9 [.ptr (some ⟨sb, 0, none⟩), .int .i64 off, .slice data, .bool more] w R := by
  obtain ⟨o, rfl⟩ := Int.eq_ofNat_of_zero_le h0
  refine c9 (off := o) H hN hd hb hdis (by omega) hlb ?_
  simpa using k
theorem newV_nil {t mb : Nat} {k0 : KeyV} : Rl 0 k0 false ⟨2, 1048576, 0, []⟩ [] [] (-1) :=
  ⟨rfl, by simp, by simp, .inr (.inl ⟨rfl, rfl, rfl, rfl, rfl⟩)⟩
section
variable {w : World}
set_option maxRecDepth 20000 in
set_option maxHeartbeats 2000000 in
theorem c3 {kv : IpV} {ks kd : Sl} {pieces : Sl} {ps : List IpC} (hk : (keyH kv).Ok) (hp : Sees cIp w pieces ps) (hps : ∀ a ∈ ps, IpOk w a) : Ret Try.prog 3 [ipSV kv ks kd, .slice pieces] w fun r w1 => r = .bool true ∧ Upd [] [] w w1 := by
  refine f3_of _ _ _ _ _ _ _ _ _ _ _ _ _ _ _ _ ?_
  unfold vc3
  have hpl := hp.len
  intro b w1 u1
  have nb := u1.new (b := b) (by simp)
  have z1 := u1.size
  refine c5 (by omega) (by omega) fun t mb w2 u2 hT2 ht hmb => ⟨_, _, rfl, kp u2, ?_⟩
  intro J hJ
  refine brf rfl (brf rfl ?_)
  (repeat refine And.intro rfl ?_)
  refine hJ _ ?_
  clear hJ
  intro b1 w3 u3 hr3 _
  have n1 := u3.new (b := b1) (by simp)
  have z2 := u2.size; have z3 := u3.size
  have B3 := Blk.row (L := [Sl.nil.val, Sl.nil.val, .int .i64 (-1)]) hr3
  have H3 : Sht w1.heap.size w3 b1 [] [] (-1) Sl.nil Sl.nil := ⟨B3, Sees.nil _ _ _ _, Own.none _ _ _, Sees.nil _ _ _ _, Own.none _ _ _, by simp [Sl.blk, Sl.nil], by simp [Sl.blk, Sl.nil], by simp [Sl.blk, Sl.nil], by omega, rfl, by simp [Byt]⟩
  have U3 := (u1.then u2).then u3
  refine ⟨fun dn n w' => ∃ (q : Nat) (T : Tv) (hd : List Nat) (lb : List Int) (li : List Bool) (e : Int) (B I : Sl), n = q ∧ q ≤ ps.length ∧ q ≤ 100 ∧ Upd [] [] w w' ∧ w3.heap.size ≤ w'.heap.size ∧ TbAt w1.heap.size w' t T hd ∧ Sht w1.heap.size w' b1 lb li e B I ∧ (∀ x ∈ hd, x ∉ shB b1 B I) ∧ Rl q (keyH kv) dn T lb li e,
    fun _ n _ => (ps.length - n).toNat, ⟨0, _, _, _, _, _, _, _, rfl, by omega, by omega, U3, by omega, hT2.old u3, H3, fun x hx => ?_, newV_nil (t := t) (mb := mb)⟩, ?_⟩
  · have := (hT2.lt x hx).2
    simp [shB, Sl.blk, Sl.nil]
    omega
  rintro dn n w4 ⟨q, T, hd, lb, li, e, B, I, rfl, hq, hq2, U4, z4, hT4, H4, dis, rl⟩
  intro J hJ
  refine brd (fun hlt => brd (fun h100 => ?_) (fun _ => ⟨rfl, U4⟩)) (fun _ => ⟨rfl, U4⟩)
  (repeat refine And.intro rfl ?_)
  refine hJ _ ?_
  clear hJ
  intro J2 hJ2
  have hq3 : q < ps.length := by omega
  have hp4 := hp.old U4
  have he := hp4.elem hq3
  have ok := (hps _ (List.getElem_mem hq3)).old U4
  have okW := hps _ (List.getElem_mem hq3)
  have next : ∀ (dn' : Bool) (T' : Tv) (hd' : List Nat) (lb' : List Int) (li' : List Bool) (e' : Int) (B' I' : Sl) (w' : World), Upd [] [] w w' → w4.heap.size ≤ w'.heap.size → TbAt w1.heap.size w' t T' hd' → Sht w1.heap.size w' b1 lb' li' e' B' I' → (∀ x ∈ hd', x ∉ shB b1 B' I') → Rl ((q : Int) + 1) (keyH kv) dn' T' lb' li' e' → J2 dn' w' := fun dn' T' hd' lb' li' e' B' I' w' a1 a0 a2 a3 a4 a5 => by
    refine hJ2 _ _ ?_
    (repeat refine And.intro rfl ?_)
    exact ⟨⟨q + 1, T', hd', lb', li', e', B', I', wr_succ (by omega), by omega, by omega, a1, by omega, a2, a3, a4, by simpa using a5⟩, by rw [wr_succ (q := q) (by omega)]; (try dsimp only); omega⟩
  clear hJ2
  generalize ps[q] = a at he ok okW
  have c : ∀ j x, (cIp.enc a)[j]? = some x → w4.cell? ((pieces.at 43 q).add j) = some x := fun j x hx => by
    obtain ⟨hj, hv⟩ := List.getElem?_eq_some_iff.1 hx
    have := he j hj
    rw [hv] at this
    exact this
  have c0 := c 0 _ rfl
  rw [add_zero] at c0
  refine needIx (by omega) (by omega) (h2 := hp4.isSome (by decide) (by omega)) ?_
  rw [Int.toNat_natCast]
  refine ⟨a.v.tos, c0, a.v.id, c 1 _ rfl, a.v.df, c 2 _ rfl, a.v.mf, c 3 _ rfl, a.v.off, c 4 _ rfl, a.v.ttl, c 5 _ rfl, a.v.proto, c 6 _ rfl, a.v.sv, c 7 _ rfl, a.v.sa, fun i hi => c _ _ (ip_sa a i hi), a.v.dv, c 24 _ rfl, a.v.da, fun i hi => c _ _ (ip_da a i hi), a.so, c 41 _ rfl, a.sd, c 42 _ rfl, ?_⟩
  intro b5 J1 hJ1
  let v : IpV := ⟨a.v.tos, kv.id, a.v.df, a.v.mf, a.v.off, a.v.ttl, kv.proto, kv.sv, kv.sa, kv.dv, kv.da, a.v.opts, a.v.data⟩
  obtain ⟨os, hOW, hoc⟩ := okW.ex
  have hO := hOW.old U4
  have lt4 := hT4.lt
  have lt4' := H4.lt
  have far : ∀ x, x < w.heap.size → x < w4.heap.size ∧ x ∉ hd ∧ x ∉ shB b1 B I := fun x hx => ⟨by omega, fun hm => by have := lt4 x hm; omega, fun hm => by have := lt4' x hm; omega⟩
  have oin : OptIn (fun x => x < w4.heap.size ∧ x ∉ hd ∧ x ∉ shB b1 B I) a.so a.v.opts os := OptIn.mono (Opts.inH hOW) far
  have din : 0 < a.v.data.length → ∀ x ∈ a.sd.blk, x < w4.heap.size ∧ x ∉ hd ∧ x ∉ shB b1 B I := fun hp' x hx => far x (Sees.inH okW.d (by decide) hp' x hx)
  have chk : ∀ w5, Upd [] [b5] w4 w5 → ¬ (v.mf = false ∧ v.off = 0) → ∀ R2 : SV → World → Prop, (∀ n w6, Keeps [b, b5] w5 w6 → (n ≠ 0 → J2 dn w6) → (n = 0 → J1 w6) → R2 (.int .i64 n) w6) → Ret Try.prog 6 [ipSV v a.so a.sd] w5 R2 := fun w5 u5 hfr R2 kR => by
    have z5 := u5.size
    have n5 := u5.new (b := b5) (by simp)
    refine c6 (v := v) (hO.old u5) (by have := ok.few; show a.v.opts.length ≤ _; omega) (fun o ho => by have := ok.small o ho; omega) (ok.d.old u5).len (by have := ok.dl; show a.v.data.length ≤ _; omega) fun w6 u6 => kR _ w6 (kp u6) (fun hne => ?_) (fun hc => hJ1 _ ?_)
    · exact next dn T hd lb li e B I w6 ((U4.then u5).then u6) (by have := u6.size; omega) ((hT4.old u5).old u6) ((H4.old u5).old u6) dis (rl.mono (by omega))
    clear hJ1
    (repeat refine And.intro rfl ?_)
    have u46 := u5.then u6
    have hT6 := hT4.old u46
    have H6 := H4.old u46
    have z6 := u6.size
    have hmx := rl.max
    have hln := rl.len
    refine c7 (v := v) hT6 (by omega) rl.states hk (hO.old u46) ok.few ok.small ok.bo (ok.d.old u46) ok.dl ok.cap ok.bd (oin.mono fun x hx => hx.2.1) (fun hp x hx => ⟨by have := (din hp x hx).1; omega, (din hp x hx).2.1⟩) fun T' out o e' so sd os' w7 hd' hoff U7 hT7 sub7 hO7 hD7 nd7 => ⟨_, _, _, _, _, _, _, _, _, _, _, _, _, _, _, rfl, kpm U7 ?_ ?_, fun b8 => ?_⟩
    · intro x hx
      simp only [List.mem_cons, List.not_mem_nil, or_false] at hx
      rcases hx with e | e <;> subst e <;> omega
    · intro x hx hm
      have := hT4.lt x hm
      simp only [List.mem_cons, List.not_mem_nil, or_false] at hx
      rcases hx with e | e <;> subst e <;> omega
    have z7 := U7.size
    have U7' : Upd [] [] w w7 := (U4.then u46).step0 U7 (fun x hx => by have := lt4 x hx; omega)
    have dis7 : ∀ x ∈ hd', x ∉ shB b1 B I := fun x hx hm => by
      rcases sub7 x hx with q | q
      · exact dis x q hm
      · have := lt4' x hm; omega
    have H7 : Sht w1.heap.size w7 b1 lb li e B I := H6.upd U7 (fun x hx hm => dis x hm hx)
    cases dn with
    | true =>
      obtain ⟨rfl, rfl⟩ := step_done (v := v) rl rfl hc hfr hoff
      refine brt rfl (brf rfl fun w8 u8 => ?_)
      (repeat refine And.intro rfl ?_)
      exact next true T' hd' lb li e B I w8 (U7'.then u8) (by have := u8.size; omega) (hT7.old u8) (H7.old u8) dis7 (rl.mono (by omega))
    | false =>
      refine brf rfl ?_
      rcases step_law (v := v) rl (by omega) (by omega) rfl hc hfr ok.bd hoff with ⟨hne, rl', hz, hf⟩ | ⟨rfl, hpos, hlay⟩
      · refine brt (by simpa using hne) ?_
        intro J3 hJ3
        have nx : ∀ w8, Upd [] [] w7 w8 → J2 false w8 := fun w8 u8 => next false T' hd' lb li e B I w8 (U7'.then u8) (by have := u8.size; omega) (hT7.old u8) (H7.old u8) dis7 rl'
        have go : ∀ w8, Upd [] [] w7 w8 → J3 w8 := fun w8 u8 => by
          refine hJ3 _ ?_
          clear hJ3
          (repeat refine And.intro rfl ?_)
          refine bre (fun h123 => ⟨e, (H7.old u8).box.at_ 2 rfl, brd (fun h0 => ?_) (fun _ => by (repeat refine And.intro rfl ?_); exact nx w8 u8)⟩) (fun _ => by (repeat refine And.intro rfl ?_); exact nx w8 u8)
          refine c8 (hT7.old u8) rl'.len (rl'.frags (by omega)) fun w9 u9 => ⟨_, rfl, kp u9, ?_⟩
          refine brf (by simpa using hf h0) ?_
          (repeat refine And.intro rfl ?_)
          exact nx w9 (u8.then u9)
        have hBl := H7.b.len
        have hdl := ok.d.len
        refine ⟨B, H7.box.at0 rfl, bre (fun h0 => brd (fun h1 => ?_) (fun _ w8 u8 => by (repeat refine And.intro rfl ?_); exact go w8 u8.forget)) (fun _ w8 u8 => by (repeat refine And.intro rfl ?_); exact go w8 u8.forget)⟩
        exact absurd (show 0 < v.data.length by show 0 < a.v.data.length; omega) (hz (by omega))
      · refine brf rfl ?_
        intro w8 u8
        have z8 := u8.size
        have n8 := u8.new (b := b8) (by simp)
        obtain ⟨f1, f2, f3, f4⟩ := chk_fr hc
        have hpos' : 0 < a.v.data.length := hpos
        refine c9' (l := v.data) f1 (H7.old u8) (by omega) (((Sees.updP (ok.d.old u46) U7 (fun hp x hx => (din hp x hx).2.1))).old u8) ok.bd (fun x hx => ⟨by have := (din hpos' x hx).1; omega, (din hpos' x hx).2.2⟩) (by have f3' : a.v.off + (a.v.data.length : Int) ≤ 65515 := f3; show a.v.off + (a.v.data.length : Int) ≤ _; omega) (by have := rl.le; omega) fun B9 I9 lb' li' w9 U9 H9 sub9 hL => ⟨rfl, kpm U9 ?_ ?_, ?_⟩
        · intro x hx
          simp only [List.mem_cons, List.not_mem_nil, or_false] at hx
          rcases hx with e | e | e <;> subst e <;> omega
        · intro x hx hm
          have := lt4' x hm
          simp only [List.mem_cons, List.not_mem_nil, or_false] at hx
          rcases hx with e | e | e
          · subst e; omega
          · subst e; omega
          · subst e; omega
        have z9 := U9.size
        obtain ⟨hle, hcase⟩ := hlay lb' li' hL
        have U9' : Upd [] [] w w9 := (U7'.then u8).step0 U9 (fun x hx => by have := lt4' x hx; omega)
        have dis9 : ∀ x ∈ hd', x ∉ shB b1 B9 I9 := fun x hx hm => by
          have q7 := (hT7.lt x hx).2
          rcases sub9 x hm with q | q
          · exact dis7 x hx q
          · omega
        have hT9 : TbAt w1.heap.size w9 t T' hd' := (hT7.old u8).upd U9 dis7
        have dd9 : ∀ x ∈ sd.blk, x ∉ shB b1 B I := fun x hx hm => by
          rcases nd7 x hx with q | q
          · have := lt4' x hm; omega
          · exact (din hpos' x q).2.2 hm
        have hD9 := (hD7.old u8).upd U9 dd9
        intro J3 hJ3
        generalize he2 : (if v.mf = false ∧ e < 0 then ((v.off.toNat + v.data.length : Nat) : Int) else e) = e2 at *
        have go : ∀ w10, Upd [] [] w9 w10 → J3 w10 := fun w10 u10 => by
          refine hJ3 _ ?_
          clear hJ3
          (repeat refine And.intro rfl ?_)
          have z10 := u10.size
          rcases hcase with ⟨ho, hfl, rl'⟩ | ⟨ho, hfl, hdt, hm, h0, hfr0, rl'⟩
          · refine brf (by simpa using ho) ?_
            (repeat refine And.intro rfl ?_)
            exact next false T' hd' lb' li' e2 B9 I9 w10 (U9'.then u10) (by omega) (hT9.old u10) (H9.old u10) dis9 rl'
          · refine brt (by simpa using ho) ⟨B9, (H9.old u10).box.at0 rfl, fun w11 u11 => ?_⟩
            have v11 := u10.then u11
            refine c11 (la := out.data) (lb := lb') (hD9.old v11) (H9.b.old v11) (by rw [hdt]; exact H9.byt) H9.byt ⟨_, rfl, kp (Upd.refl _), u11, ?_⟩
            refine brf (by simp [hdt]) (brf hm (brf (by simp [h0]) ?_))
            refine c8 (hT9.old v11) rl'.len (rl'.frags (by omega)) fun w12 u12 => ⟨_, rfl, kp u12, brf (by simpa using hfr0) ?_⟩
            (repeat refine And.intro rfl ?_)
            have v12 := v11.then u12
            exact next true T' hd' lb' li' e2 B9 I9 w12 (U9'.then v12) (by have := v12.size; omega) (hT9.old v12) (H9.old v12) dis9 rl'
        have ful : fullV lb' li' e2 = (o == 1) := by
          rcases hcase with ⟨ho, hfl, _⟩ | ⟨ho, hfl, _⟩
          · rw [hfl]; symm; simpa using ho
          · rw [hfl]; symm; simpa using ho
        have hBl9 := H9.b.len
        have hl9 : lb'.length ≤ 1000000 := by
          have e1 := hL.len
          have e2 := rl.le
          have f3' : a.v.off + (a.v.data.length : Int) ≤ 65515 := f3
          have f1' : 0 ≤ a.v.off := f1
          have e3 : lb'.length = max lb.length (a.v.off.toNat + a.v.data.length) := e1
          omega
        have ten : ∀ w10, Upd [] [] w9 w10 → ∀ R2 : SV → World → Prop, (∀ w11, Keeps [b, b5, b8] w10 w11 → J3 w11 → R2 (.bool (o == 1)) w11) → Ret Try.prog 10 [.ptr (some ⟨b1, 0, none⟩)] w10 R2 := fun w10 u10 R2 k => by
          refine c10 (H9.old u10) hl9 fun w11 u11 => ?_
          rw [ful]
          exact k w11 (kp u11) (go w11 (u10.then u11))
        refine ⟨e2, H9.box.at_ 2 rfl, brd (fun h0 => ⟨B9, H9.box.at0 rfl, e2, H9.box.at_ 2 rfl, brd (fun hgt => by have := hle h0; omega) (fun _ w10 u10 => ?_)⟩) (fun _ w10 u10 => ?_)⟩
        · (repeat refine And.intro rfl ?_)
          refine ten w10 u10 _ fun w11 kk hj => ⟨_, rfl, kk, brf (by cases (o == 1) <;> rfl) ?_⟩
          (repeat refine And.intro rfl ?_)
          exact hj
        · (repeat refine And.intro rfl ?_)
          refine ten w10 u10 _ fun w11 kk hj => ⟨_, rfl, kk, brf (by cases (o == 1) <;> rfl) ?_⟩
          (repeat refine And.intro rfl ?_)
          exact hj
  refine brn (fun hmf => bre (fun h0 w5 u5 => ?_) (fun h0 w5 u5 => ?_)) (fun hmf w5 u5 => ?_)
  · (repeat refine And.intro rfl ?_)
    exact next dn T hd lb li e B I w5 (U4.then u5) u5.size (hT4.old u5) (H4.old u5) dis (rl.mono (by omega))
  · (repeat refine And.intro rfl ?_)
    exact chk w5 u5 (fun h => h0 h.2) _ (fun n w6 kk h1 h2 => ⟨_, rfl, kk, bre' (fun hn => by (repeat refine And.intro rfl ?_); exact h1 hn) (fun hn => by (repeat refine And.intro rfl ?_); exact h2 hn)⟩)
  · (repeat refine And.intro rfl ?_)
    exact chk w5 u5 (fun h => by have : a.v.mf = false := h.1; rw [this] at hmf; cases hmf) _ (fun n w6 kk h1 h2 => ⟨_, rfl, kk, bre' (fun hn => by (repeat refine And.intro rfl ?_); exact h1 hn) (fun hn => by (repeat refine And.intro rfl ?_); exact h2 hn)⟩)
end
end Go.Vc.Stop
end

section
open Go Go.Vc Go.Proofs Go.ChangeShapes Go.WideShapes Go.ChangeAt Go.RowKit
set_option linter.unusedVariables false
set_option linter.unusedSimpArgs false
set_option autoImplicit false
namespace Go.Vc.Stop
section
variable {H : Type} {W : World}
theorem walk3 (svs : List SV) (ds : List (DataW H)) (h : ArgsD X W [28, 29] svs ds) (hw : (DataW.weightsEach Try.prog [28, 29] ds).all (· ≤ reachBytes) = true) :
    Ret Try.prog 3 svs W fun r w1 => r = .bool true ∧ Upd [] [] W w1 := by
  obtain ⟨x, _, d1, _, m1, rfl, rfl, h1, h⟩ := argsD_cons h
  obtain ⟨y, _, d2, _, m2, rfl, rfl, h2, h⟩ := argsD_cons h
  obtain ⟨rfl, rfl⟩ := argsD_nil h
  have q := light_arg hw
  have q1 := light_head q
  have q2 := light_head q1.2
  obtain ⟨a, rfl, ha⟩ := deep_ip4 h1
  obtain ⟨s, l, rfl, hs, hc, hok⟩ := deep_ips h2 q2.1
  exact c3 (ha q1.1).key hs hok
end
end Go.Vc.Stop
end
