import Derived.Test.YtmchllbemgnieaaDoorG3
import Derived.Test.YtmchllbemgnieaaDoorG9
import Derived.Test.YtmchllbemgnieaaDoorG6
import Derived.Test.YtmchllbemgnieaaDoorG8
import Derived.Test.YtmchllbemgnieaaDoorCards
import Derived.Test.YtmchllbemgnieaaDoorTie
import Derived.Deep.DeepHandedRow
import Derived.Lib.LaidTab
import Derived.Stop.LaidErr
section
open Go Go.Vc Go.Proofs
set_option linter.unusedVariables false
set_option linter.unusedSimpArgs false
set_option autoImplicit false
namespace Go.Vc
/-- an option's data, written in place -/
theorem Opts.setData {w w1 : World} {s : Sl} {l : List Opt} {os : List (Int × Sl)} {q : Nat} {d : List Int} (h : Opts w s l os) (hq : q < l.length) (hq2 : q < os.length) (hpw : os.Pairwise (fun x y => Apt x.2 y.2)) (hoff : ∀ x ∈ os, ∀ b ∈ x.2.blk, b ∉ s.blk)
    (u : Upd (os[q]).2.blk [] w w1) (hd : SeesB w1 (os[q]).2 d) : Opts w1 s (l.set q ⟨l[q].kind, d⟩) os where
  row := h.row.upd u (fun b hb hm => hoff _ (List.getElem_mem hq2) b hm hb)
  len := by rw [List.length_set]; exact h.len
  kind i hi := by
    rw [List.length_set] at hi
    rw [h.kind i hi]
    by_cases e : q = i
    · subst e; simp
    · rw [List.getElem_set_ne e]
  each i hi := by
    rw [List.length_set] at hi
    by_cases e : q = i
    · subst e; simpa using hd
    · rw [List.getElem_set_ne e]
      refine (h.each i hi).upd u fun b hb hm => ?_
      have hi2 : i < os.length := by rw [h.len]; exact hi
      rcases Nat.lt_or_gt_of_ne e with g | g
      · exact List.pairwise_iff_getElem.1 hpw q i hq2 hi2 g b hm hb
      · exact List.pairwise_iff_getElem.1 hpw i q hi2 hq2 g b hb hm
end Go.Vc
namespace Go.Vc.S9
section
variable {w : World} {R : SV → World → Prop} {t : TcV} {so d : Sl} {os : List (Int × Sl)}
def mixL (f : Opt → Opt) (l : List Opt) (q : Nat) : List Opt := (l.take q).map f ++ l.drop q
theorem mixL_len (f : Opt → Opt) (l : List Opt) (q : Nat) (h : q ≤ l.length) : (mixL f l q).length = l.length := by simp [mixL]; omega
theorem mixL_at (f : Opt → Opt) (l : List Opt) (q : Nat) (h : q < l.length) : (mixL f l q)[q]'(by rw [mixL_len f l q (by omega)]; exact h) = l[q] := by
  unfold mixL
  rw [List.getElem_append_right (by simp; omega)]
  simp [Nat.min_eq_left (Nat.le_of_lt h)]
theorem mixL_succ (f : Opt → Opt) (l : List Opt) (q : Nat) (h : q < l.length) : mixL f l (q + 1) = (mixL f l q).set q (f l[q]) := by
  unfold mixL
  have e1 : ((l.take q).map f).length = q := by simp; omega
  rw [take_snoc h, List.map_append, List.set_append_right _ _ (by omega), e1, Nat.sub_self, List.drop_eq_getElem_cons h, List.set_cons_zero, List.append_assoc]
  rfl
theorem mixL_same (f : Opt → Opt) (l : List Opt) (q : Nat) (h : q < l.length) (he : f l[q] = l[q]) : mixL f l (q + 1) = mixL f l q := by
  rw [mixL_succ f l q h, he]
  have := mixL_at f l q h
  rw [← this]
  exact List.set_getElem_self _
set_option maxRecDepth 10000 in
theorem c57 {most : Int} (hO : Opts w so t.opts os) (hb : ∀ o ∈ t.opts, Byt o.data) (hl : t.opts.length ≤ 4398046511104) (hod : ∀ o ∈ t.opts, o.data.length ≤ 140737488355328) (hD : SeesB w d t.data) (hdl : t.data.length ≤ 140737488355328)
    (hm : -9223372036854775808 ≤ most ∧ most ≤ 9223372036854775807)
    (k : ∀ s os d w1, Upd [] [] w w1 → Opts w1 s (clampT t most).opts os → Own w.heap.size 2 w1 s → (∀ x ∈ os, Own w.heap.size 1 w1 x.2) → SeesB w1 d t.data → Own w.heap.size 1 w1 d → R (tcSV (clampT t most) s d) w1) : Ret Tryd.prog 57 [tcSV t so d, .int .i64 most] w R := by
  refine f57_of _ _ _ _ _ _ _ _ _ _ _ _ ?_
  unfold vc57
  intro b b1 w1 u1
  have n0 := u1.new (b := b) (by simp)
  have n1 := u1.new (b := b1) (by simp)
  have y1 := u1.size
  refine c38 (hO.old u1) hl hod (hD.old u1) hdl fun s os d w2 u2 hs ho hos hpw hof hd hodd hds hdos => ⟨_, _, _, _, _, _, _, _, _, rfl, kp u2, ?_⟩
  have v2 := u1.then u2
  have y2 := u2.size
  intro b2 J hJ
  have hge := imax_ge most 0
  generalize hM : imax most 0 = M at *
  have hcl : (clampT t most).opts = t.opts.map (clampO (synOf t.fl) M) := by rw [← hM]; rfl
  generalize hf : clampO (synOf t.fl) M = f at *
  have main : ∀ w3, Upd [] [b2] w2 w3 → J M w3 := by
    intro w3 u3
    have n2 := u3.new (b := b2) (by simp)
    have y3 := u3.size
    refine hJ _ _ ?_
    have blk3 : ∀ x ∈ os, ∀ z ∈ x.2.blk, w1.heap.size ≤ z ∧ z < w2.heap.size := fun x hx z hz => (hos x hx).blk z hz
    have noB : ∀ x ∈ os, ∀ z ∈ x.2.blk, z ∉ [b, b1, b2] := fun x hx z hz hm => by have := blk3 x hx z hz; simp at hm; omega
    have hol := hs.len
    refine ⟨fun i w4 => ∃ (q : Nat), i = q ∧ q ≤ t.opts.length ∧ Upd [] [] w w4 ∧ w3.heap.size ≤ w4.heap.size ∧ Opts w4 s (mixL f t.opts q) os ∧ Own w1.heap.size 2 w4 s ∧ (∀ x ∈ os, Own w1.heap.size 1 w4 x.2) ∧ SeesB w4 d t.data ∧ Own w1.heap.size 1 w4 d, fun i _ => (t.opts.length - i).toNat,
      ⟨0, rfl, by omega, v2.then u3, Nat.le_refl _, by simpa [mixL] using hs.old u3, ho.old u3, fun x hx => (hos x hx).old u3, hd.old u3, hodd.old u3⟩, ?_⟩
    rintro i w4 ⟨q, rfl, hq, v4, y4, hO4, o4, os4, d4, od4⟩
    have hml := mixL_len f t.opts q hq
    have hsl := hO4.slen
    refine brd (fun hlt => ?_) (fun hge2 w5 u5 => ?_)
    · have hq2 : q < t.opts.length := by omega
      have hq3 : q < os.length := by rw [hs.len]; exact hq2
      have hmq := mixL_at f t.opts q hq2
      have hq4 : q < (mixL f t.opts q).length := by omega
      obtain ⟨g1, g2, g3, g4⟩ := hO4.get q hq4
      rw [hmq] at g1 g3
      have hbq := hb _ (List.getElem_mem hq2)
      intro J1 hJ1
      -- nothing changed
      have keep : f t.opts[q] = t.opts[q] → ∀ w5, Upd [] [] w4 w5 → J1 w5 := fun he w5 u5 => by
        refine hJ1 _ ?_
        (repeat refine And.intro rfl ?_)
        refine ⟨⟨q + 1, wr_succ (by omega), by omega, v4.then u5, by have := u5.size; omega, ?_, o4.old u5, fun x hx => (os4 x hx).old u5, d4.old u5, od4.old u5⟩, ?_⟩
        · rw [mixL_same f t.opts q hq2 he]; exact hO4.old u5
        · rw [wr_succ (q := q) (by omega)]; (try dsimp only); omega
      refine needO hO4 (by omega) (by omega) ⟨_, (by rw [Int.toNat_natCast]; exact g1), _, (by rw [Int.toNat_natCast]; exact g2), ?_⟩
      refine c92 (o := t.opts[q]) g3.len fun w5 u5 => ⟨_, rfl, kp u5, ?_⟩
      intro J2 hJ2
      have hO5 := hO4.old u5
      have y5 := u5.size
      obtain ⟨g1', g2', g3', g4'⟩ := hO5.get q hq4
      rw [hmq] at g3'
      have no : ¬ (tells t.opts[q] ∧ M < W16 t.opts[q].data 0 ∧ synOf t.fl = true) → J2 false w5 := fun hn => by
        refine hJ2 _ _ (brf rfl ?_)
        (repeat refine And.intro rfl ?_)
        exact keep (by rw [← hf]; unfold clampO; rw [if_neg hn]) _ u5
      refine brb (fun ht' => ?_) (fun ht' => ?_)
      rotate_left
      · (repeat refine And.intro rfl ?_)
        exact no (fun x => of_decide_eq_false ht' x.1)
      have ht := of_decide_eq_true ht'
      have ht2 := ht.2
      by_cases hsy : synOf t.fl = true
      rotate_left
      · refine brf (by unfold synOf at hsy; simpa using hsy) ?_
        (repeat refine And.intro rfl ?_)
        exact no (fun x => hsy x.2.2)
      refine brt hsy (needO hO5 (by omega) (by omega) ⟨_, (by rw [Int.toNat_natCast]; exact g2'), ?_⟩)
      refine c84 (n := 2) (i := 0) g3' hbq (by omega) (by omega) (by omega) ⟨_, rfl, kp (Upd.refl _), ?_⟩
      have e84 := bitsN_two hbq 0
      rw [show 8 * 2 = 16 from rfl, e84]
      have eW : bt t.opts[q].data ((0 : Nat) : Int) * 256 + bt t.opts[q].data ((0 + 1 : Nat) : Int) = W16 t.opts[q].data 0 := rfl
      rw [eW]
      by_cases hgt : M < W16 t.opts[q].data 0
      rotate_left
      · rw [decide_eq_false (by omega)]
        (repeat refine And.intro rfl ?_)
        exact no (fun x => hgt x.2.1)
      rw [decide_eq_true (by omega)]
      (repeat refine And.intro rfl ?_)
      refine hJ2 _ _ (brt rfl ?_)
      have hwr := W16_r hbq 0
      rw [tdiv_pos (by omega), wr_i64 (x := M / 256) (by omega) (by omega), tmod_pos (by omega), wr_u8, wr_u8, show M % 256 % 256 = M % 256 by omega]
      have hxo := os4 _ (List.getElem_mem hq3)
      have hxo5 := hxo.old u5
      refine needO hO5 (by omega) (by omega) ⟨_, (by rw [Int.toNat_natCast]; exact g2'), ?_⟩
      refine needCB g3' 0 (by omega) ?_
      refine own_set (c := cU8) (x := M / 256 % 256) g3' hxo5 (by decide) (by omega) rfl (noB _ (List.getElem_mem hq3)) fun w6 h6 o6 u6 => ?_
      have hO6 := hO5.setData hq4 hq3 hpw hof u6 h6
      have hq6 : q < ((mixL f t.opts q).set q ⟨(mixL f t.opts q)[q].kind, t.opts[q].data.set 0 (M / 256 % 256)⟩).length := by rw [List.length_set]; omega
      obtain ⟨_, g26, g36, _⟩ := hO6.get q hq6
      refine needO hO6 (by omega) (by rw [List.length_set]; omega) ⟨_, (by rw [Int.toNat_natCast]; exact g26), ?_⟩
      refine needCB h6 1 (by simp; omega) ?_
      refine own_set (c := cU8) (x := M % 256) h6 o6 (by decide) (by simp; omega) rfl (noB _ (List.getElem_mem hq3)) fun w7 h7 o7 u7 => ?_
      have hO7 := hO6.setData hq6 hq3 hpw hof u7 h7
      rw [List.set_set] at hO7
      have e2 : (t.opts[q].data.set 0 (M / 256 % 256)).set 1 (M % 256) = [M / 256 % 256, M % 256] := by
        generalize t.opts[q].data = l at ht2
        match l, ht2 with
        | [_, _], _ => rfl
      have ef : f t.opts[q] = ⟨t.opts[q].kind, [M / 256 % 256, M % 256]⟩ := by rw [← hf]; unfold clampO; rw [if_pos ⟨ht, hgt, hsy⟩]
      have hO8 : Opts w7 s (mixL f t.opts (q + 1)) os := by
        rw [mixL_succ f t.opts q hq2, ef, ← e2]
        have ek : ((mixL f t.opts q).set q ⟨(mixL f t.opts q)[q].kind, t.opts[q].data.set 0 (M / 256 % 256)⟩)[q].kind = t.opts[q].kind := by
          rw [List.getElem_set_self, hmq]
        rw [ek] at hO7
        exact hO7
      have bq : ∀ z ∈ (os[q]).2.blk, w.heap.size ≤ z := fun z hz => by have := blk3 _ (List.getElem_mem hq3) z hz; omega
      have u67 : Upd (os[q]).2.blk [] w5 w7 := u6.step u7 (fun x hx => .inr hx)
      have y67 := u67.size
      have offs : ∀ x ∈ s.blk, x ∉ (os[q]).2.blk := fun x hx hm => hof _ (List.getElem_mem hq3) x hm hx
      have offd : ∀ x ∈ d.blk, x ∉ (os[q]).2.blk := fun x hx hm => hdos _ (List.getElem_mem hq3) x hx hm
      (repeat refine And.intro rfl ?_)
      refine hJ1 _ ?_
      (repeat refine And.intro rfl ?_)
      refine ⟨⟨q + 1, wr_succ (by omega), by omega, (v4.then u5).step0 u67 bq, by omega, hO8, (o4.old u5).upd u67 offs, fun x hx => ?_, (d4.old u5).upd u67 offd, (od4.old u5).upd u67 offd⟩, ?_⟩
      · obtain ⟨j, hj, rfl⟩ := List.getElem_of_mem hx
        by_cases e : j = q
        · subst e; exact o7
        · refine ((os4 _ (List.getElem_mem hj)).old u5).upd u67 (fun z hz hm => ?_)
          rcases Nat.lt_or_gt_of_ne e with g | g
          · exact List.pairwise_iff_getElem.1 hpw j q hj hq3 g z hz hm
          · exact List.pairwise_iff_getElem.1 hpw q j hq3 hj g z hm hz
      · rw [wr_succ (q := q) (by omega)]; (try dsimp only); omega
    · have hqe : q = t.opts.length := by omega
      subst hqe
      have em : mixL f t.opts t.opts.length = t.opts.map f := by simp [mixL]
      rw [em] at hO4
      have bs := o4.blk
      have q1 : ∀ x ∈ s.blk, x ∉ [b1] := fun x hx hm => by have := (bs x hx).1; simp at hm; omega
      have q2 : ∀ y ∈ os, ∀ x ∈ y.2.blk, x ∉ [b1] := fun y hy x hx hm => by have := blk3 y hy x hx; simp at hm; omega
      have q3 : ∀ x ∈ d.blk, x ∉ [b1] := fun x hx hm => by have := (od4.blk x hx).1; simp at hm; omega
      exact k s os d w5 (v4.step0 u5 (by simp; omega)) (by rw [hcl]; exact hO4.upd u5 q1 q2) ((o4.upd u5 q1).mono y1) (fun x hx => ((os4 x hx).upd u5 (q2 x hx)).mono y1) (d4.upd u5 q3) ((od4.upd u5 q3).mono y1)
  refine brd (fun h0 w3 u3 => ?_) (fun h0 w3 u3 => ?_)
  · (repeat refine And.intro rfl ?_)
    have : M = 0 := by omega
    rw [← this]; exact main w3 u3
  · (repeat refine And.intro rfl ?_)
    have : M = most := by omega
    rw [← this]; exact main w3 u3
end
section
variable {b : Sl} {l : List Int} {w : World} {R : SV → World → Prop}
def wid (l : List Int) : List Int := l ++ [91, 92, 93]
theorem c32 (h : SeesB w b l) (hl : l.length ≤ 140737488355320) (k : ∀ s w1, Upd [] [] w w1 → SeesB w1 s (wid l) → Own w.heap.size 1 w1 s → R (.slice s) w1) : Ret Tryd.prog 32 [.slice b] w R := by
  refine f32_of _ _ _ ?_
  unfold vc32
  refine c40 h (by omega) fun s w1 u1 hs ho => ⟨_, rfl, ?_⟩
  intro b2 w2 u2 hr2
  refine append_own (c := cU8) (new := [91, 92, 93]) (hs.old u2) (ho.old u2) (rowB hr2 _ rfl rfl) (u1.then u2).size (by simp) (by decide) (by simp; omega) fun r w3 hr ho3 u3 _ => ?_
  exact k r w3 ((u1.then u2).step0 u3 (fun x hx => (ho.blk x hx).1)) hr ho3
theorem wid_len (l : List Int) : (wid l).length = l.length + 3 := by simp [wid]
theorem wid_in {w' : World} {a : Sl} (h : SeesB w' a (wid l)) (hc : a.len ≤ a.cap) : SeesB w' (a.sub 1 0 l.length a.cap) l := by
  have hl := h.len
  rw [wid_len] at hl
  have := h.subB (lo := 0) (hi := l.length) (mx := a.cap) (by omega) (by rw [wid_len]; omega) (by omega)
  simpa [wid] using this
/-- a wide list that holds the bytes and the marks -/
theorem c34T {a : Sl} (ha : SeesB w a (wid l)) (hb : SeesB w b l) (hc : a.len ≤ a.cap) (hl : l.length ≤ 140737488355328) (hB : Byt l) (k : R (.bool true) w) : Ret Tryd.prog 34 [.slice a, .slice b] w R := by
  refine f34_of _ _ _ _ ?_
  unfold vc34
  have hal := ha.len
  have hbl := hb.len
  rw [wid_len] at hal
  rw [wr_i64 (x := (b.len : Int) + 3) (by omega) (by omega), wr_i64 (x := (b.len : Int) + 1) (by omega) (by omega), wr_i64 (x := (b.len : Int) + 2) (by omega) (by omega)]
  refine brt (by simp; omega) (need (by simp; omega) ?_)
  rw [Int.toNat_natCast, hbl]
  refine c30 (wid_in ha hc) hb hB hB ⟨_, rfl, ?_⟩
  have g : ∀ i : Nat, i < 3 → bt (wid l) (((l.length + i : Nat)) : Int) = bt [91, 92, 93] (i : Int) := fun i hi => bt_app_r l _ i
  have hw := wid_len l
  rw [decide_eq_true rfl]
  refine brt rfl (needB ha (by omega) (by omega) ⟨91, by rw [byteC ha _ (by omega)]; exact congrArg (fun x => some (Value.int .u8 x)) (g 0 (by omega)), brt rfl ?_⟩)
  refine needB ha (by omega) (by omega) ⟨92, by rw [show ((l.length : Int) + 1).toNat = l.length + 1 by omega, byteC ha _ (by omega)]; exact congrArg (fun x => some (Value.int .u8 x)) (g 1 (by omega)), brt rfl ?_⟩
  refine needB ha (by omega) (by omega) ⟨93, by rw [show ((l.length : Int) + 2).toNat = l.length + 2 by omega, byteC ha _ (by omega)]; exact congrArg (fun x => some (Value.int .u8 x)) (g 2 (by omega)), k⟩
end
end Go.Vc.S9
end

section
open Go Go.Vc Go.Proofs
set_option linter.unusedVariables false
set_option linter.unusedSimpArgs false
set_option autoImplicit false
namespace Go.Vc.S9
section
variable {e : Ends} {w : World} {R : SV → World → Prop}
theorem w16_bits {l : List Int} (hb : Byt l) (q : Nat) : bitsN l (8 * q) (8 * 2) = W16 l q := bitsN_two hb q
theorem w32_bits {l : List Int} (hb : Byt l) (q : Nat) : bitsN l (8 * q) (8 * 4) = W32 l q := bits32 hb q
/-- the tail of the document's reading: the sum -/
theorem udTail {b : Sl} {l : List Int} {E1 E2 E3 E4 E5 F1 F2 F3 F4 F5 : Prop} {L m1 n1 m2 n2 : List Nat} {b3 : Nat} {w5 : World} {G Bd : World → Prop} {a c : Int} {d : Bool} {s : Sl} (o : e.Ok) (hf : e.fit) (h : SeesB w5 b l) (hb : Byt l) (h3 : 8 ≤ udLen l) (h4 : udLen l ≤ l.length) (h5 : l.length ≤ 65535) (hc : b.len ≤ b.cap) (hE : E1 ∧ E2 ∧ E3 ∧ E4 ∧ E5) (hF : F1 ∧ F2 ∧ F3 ∧ F4 ∧ F5)
    (hh : ∀ w6, Upd m2 n2 w5 w6 → SeesB w6 b l)
    (kb : ∀ w6, Upd m1 n1 w5 w6 → W16 l 6 = 0 → e.sv = 6 → Bd w6)
    (kb2 : ∀ w6 w7 w8, Upd m2 n2 w5 w6 → Upd [] [] w6 w7 → Upd [b3] [] w7 w8 → W16 l 6 ≠ 0 → psum e 17 (l.take (udLen l)) ≠ 65535 → Bd w8)
    (kg : ∀ w6 w7 w8, Upd m2 n2 w5 w6 → Upd [] [] w6 w7 → Upd [b3] [] w7 w8 → (W16 l 6 = 0 → e.sv ≠ 6) → (W16 l 6 ≠ 0 → psum e 17 (l.take (udLen l)) = 65535) → G w8) :
    ∀ (J : Int → Int → Bool → Sl → World → Prop), (∀ (n_6 n_7 : Int) (b_8 : Bool) (s : Sl) (w1 : World), Need (decide (0 ≤ (udLen l : Int)) && decide ((udLen l : Int) ≤ (b.cap : Int))) (∀ (w1_5 : World), Upd [] [] w1 w1_5 →
      Ret Tryd.prog 85 [adr e.sv e.sa, adr e.dv e.da, .int .i64 17, .slice (Sl.sub b 1 0 (Int.toNat (udLen l : Int)) b.3)] w1_5 fun r w1 => ∃ (bb : Bool), r = .bool bb ∧ Keeps L w1_5 w1 ∧
        ∀ (J : Int → Int → Bool → Sl → World → Prop), (∀ (n n_8 : Int) (b : Bool) (s : Sl) (w1 : World), (∀ (w1_6 : World), Upd [b3] [] w1 w1_6 → G w1_6) → J n n_8 b s w1) →
          Br (!(W16 l 6 == 0)) (Br (!bb) (∀ (w1_6 : World), Upd [b3] [] w1 w1_6 → Bd w1_6) (E1 ∧ E2 ∧ E3 ∧ E4 ∧ E5 ∧ J n_6 n_7 b_8 s w1)) (E1 ∧ E2 ∧ E3 ∧ E4 ∧ E5 ∧ J n_6 n_7 b_8 s w1)) → J n_6 n_7 b_8 s w1) →
      Br (W16 l 6 == 0) (Br (e.sv == 6) (∀ (w1 : World), Upd m1 n1 w5 w1 → Bd w1) (∀ (w1 : World), Upd m2 n2 w5 w1 → F1 ∧ F2 ∧ F3 ∧ F4 ∧ F5 ∧ J a c d s w1)) (∀ (w1 : World), Upd m2 n2 w5 w1 → F1 ∧ F2 ∧ F3 ∧ F4 ∧ F5 ∧ J a c d s w1) := by
  intro J hJ
  have hbl := h.len
  have main : ∀ w6, Upd m2 n2 w5 w6 → (W16 l 6 = 0 → e.sv ≠ 6) → J a c d s w6 := fun w6 u6 hz => by
    refine hJ _ _ _ _ _ (need (by simp; omega) fun w7 u7 => ?_)
    have hh7 := (hh w6 u6).old u7
    rw [Int.toNat_natCast]
    have hsub := hh7.subB (lo := 0) (hi := udLen l) (mx := b.cap) (by omega) (by omega) (by omega)
    rw [List.drop_zero] at hsub
    refine c85 hf o (by omega) hsub (hb.take _) (by simp; omega) fun w8 u8 => ⟨_, rfl, kp u8, fun J2 hJ2 => ?_⟩
    have gd : (W16 l 6 ≠ 0 → psum e 17 (l.take (udLen l)) = 65535) → E1 ∧ E2 ∧ E3 ∧ E4 ∧ E5 ∧ J2 a c d s w8 := fun hp => ⟨hE.1, hE.2.1, hE.2.2.1, hE.2.2.2.1, hE.2.2.2.2, hJ2 _ _ _ _ _ fun w9 u9 => kg w6 w8 w9 u6 (u7.then u8) u9 hz hp⟩
    refine brn (fun h0 => ?_) (fun h0 => ?_)
    · have h0' : W16 l 6 ≠ 0 := by simpa using h0
      refine brn (fun hp w9 u9 => ?_) (fun hp => gd fun _ => by simpa using hp)
      exact kb2 w6 w8 w9 u6 (u7.then u8) u9 h0' (by simpa using hp)
    · have h0' : W16 l 6 = 0 := by simpa using h0
      exact gd fun x => absurd h0' x
  refine bre (fun h0 => bre (fun h6 w6 u6 => kb w6 u6 h0 h6) (fun h6 w6 u6 => ⟨hF.1, hF.2.1, hF.2.2.1, hF.2.2.2.1, hF.2.2.2.2, main w6 u6 fun _ => h6⟩)) (fun h0 w6 u6 => ⟨hF.1, hF.2.1, hF.2.2.1, hF.2.2.2.1, hF.2.2.2.2, main w6 u6 fun x => absurd x h0⟩)
set_option maxRecDepth 10000 in
theorem c44 {b : Sl} {l : List Int} (o : e.Ok) (h : SeesB w b l) (hb : Byt l) (hc : b.len ≤ b.cap) (hl : l.length ≤ 140737488355328)
    (k : ∀ d w1, Upd [] [] w w1 → SeesB w1 d (udOf e l).data → Own w.heap.size 1 w1 d → R (.tuple [udSV (udOf e l) d, .int .i64 (udErr e l)]) w1) : Ret Tryd.prog 44 [adr e.sv e.sa, adr e.dv e.da, .slice b] w R := by
  refine f44_of _ _ _ _ _ _ _ ?_
  unfold vc44
  have hlen := h.len
  rw [hlen]
  have ke : ∀ x w1, Upd [] [] w w1 → udErr e l = x → x ≠ 0 → R (.tuple [.struct [.int .i64 0, .int .i64 0, .bool false, .slice ⟨none, 0, 0⟩], .int .i64 x]) w1 := fun x w1 u he hn => by
    have hn' : ¬ udErr e l = 0 := by omega
    have e1 : udOf e l = udZ := by unfold udOf; rw [if_neg hn']
    have := k ⟨none, 0, 0⟩ w1 u (by rw [e1]; exact Sees.nil _ _ _ _) (Own.none _ _ _)
    rwa [e1, he] at this
  intro b1 b2 b3 b4
  refine brd (fun hgt w1 u => ke _ _ u.forget (by unfold udErr; rw [if_pos (by omega)]) (by decide)) (fun hle => ?_)
  intro w1 u1
  refine c83 fun w2 u2 => ⟨_, rfl, kp u2, ?_⟩
  have v2 := u1.then u2
  have n3 := u1.new (b := b3) (by simp)
  have y2 := u2.size
  have fr : ∀ x ∈ [b3], w.heap.size ≤ x := by simp; omega
  refine brn (fun hf w3 u3 => ke _ _ (v2.step0 u3 fr) (by unfold udErr; rw [if_neg (by omega), if_pos (of_decide_eq_false hf)]) (by decide)) (fun hf' => ?_)
  have hf := of_decide_eq_true hf'
  refine brd (fun h8 w3 u3 => ke _ _ (v2.step0 u3 fr) (by unfold udErr; rw [if_neg (by omega), if_neg (Classical.not_not.2 hf), if_pos (by omega)]) (by decide)) (fun h8 => ?_)
  have n84 : ∀ (i : Nat) {w' : World} {R' : SV → World → Prop}, i + 2 ≤ l.length → SeesB w' b l → R' (.int .i64 (W16 l i)) w' → Ret Tryd.prog 84 [.slice b, .int .i64 (i : Int), .int .i64 2] w' R' := fun i w' R' hi h' k' => c84 (n := 2) h' hb hi (by omega) (by omega) (by rw [w16_bits hb]; exact k')
  refine n84 4 (by omega) (h.old v2) ⟨_, rfl, kp (Upd.refl _), ?_⟩
  rw [udLen_int hb]
  intro J hJ
  have e92 : udLen l < 8 ∨ l.length < udLen l → udErr e l = 92 := fun hx => by unfold udErr; rw [if_neg (by omega), if_neg (Classical.not_not.2 hf), if_neg (by omega), if_pos hx]
  refine brd (fun hx w5 u5 => ke _ _ (v2.step0 u5 fr) (e92 (by omega)) (by decide)) (fun g1 => ?_)
  refine brd (fun hx w5 u5 => ke _ _ (v2.step0 u5 fr) (e92 (by omega)) (by decide)) (fun g2 => ?_)
  have e93 := ud93 (e := e) (l := l) (by omega) hf (by omega) (by omega)
  (repeat refine And.intro rfl ?_)
  refine hJ _ _ _ _ _ ?_
  clear hJ
  rw [Int.toNat_natCast]
  refine need (by simp; omega) ?_
  have bad1 : ∀ w6, Upd [] [] w w6 → W16 l 6 = 0 → e.sv = 6 → R (.tuple [.struct [.int .i64 0, .int .i64 0, .bool false, .slice ⟨none, 0, 0⟩], .int .i64 93]) w6 := fun w6 u6 hz h6 => ke _ _ u6 (by rw [e93, if_pos hz, if_pos h6]) (by decide)
  have bad2 : ∀ w6, Upd [] [] w w6 → W16 l 6 ≠ 0 → psum e 17 (l.take (udLen l)) ≠ 65535 → R (.tuple [.struct [.int .i64 0, .int .i64 0, .bool false, .slice ⟨none, 0, 0⟩], .int .i64 93]) w6 := fun w6 u6 hz hp => ke _ _ u6 (by rw [e93, if_neg hz, if_pos hp]) (by decide)
  have good : ∀ d w6, Upd [] [] w w6 → SeesB w6 d ((l.take (udLen l)).drop 8) → Own w.heap.size 1 w6 d → (W16 l 6 = 0 → e.sv ≠ 6) → (W16 l 6 ≠ 0 → psum e 17 (l.take (udLen l)) = 65535) → R (.tuple [.struct [.int .i64 (W16 l 0), .int .i64 (W16 l 2), .bool (W16 l 6 == 0), .slice d], .int .i64 0]) w6 := fun d w6 u6 hd hod hz hp => by
    have he : udErr e l = 0 := by
      rw [e93]
      by_cases h0 : W16 l 6 = 0
      · rw [if_pos h0, if_neg (hz h0)]
      · rw [if_neg h0, if_neg (by rw [hp h0]; decide)]
    have e1 : udOf e l = udRaw l := by unfold udOf; rw [if_pos he]
    have := k d w6 u6 (by rw [e1]; exact hd) hod
    rwa [e1, he] at this
  -- the copy of the data, and the sum
  have n40 : ∀ {w' : World} {R' : SV → World → Prop}, SeesB w' b l → (∀ d w'', Upd [] [] w' w'' → SeesB w'' d ((l.take (udLen l)).drop 8) → Own w'.heap.size 1 w'' d → R' (.slice d) w'') → Ret Tryd.prog 40 [.slice (Sl.sub b 1 8 (udLen l) b.cap)] w' R' := fun h' k' => c40 (h'.subB (by omega) (by omega) (by omega)) (by simp; omega) k'
  refine ⟨fun w3 u3 => n84 0 (by omega) (h.old (v2.then u3)) ⟨_, rfl, kp (Upd.refl _), ⟨n84 2 (by omega) (h.old (v2.then u3)) ⟨_, rfl, kp (Upd.refl _), ⟨n84 6 (by omega) (h.old (v2.then u3)) ⟨_, rfl, kp (Upd.refl _), ⟨n40 (h.old (v2.then u3)) fun d w4 u4 hd hod => ⟨_, rfl, kp u4, fun b7 => ?_⟩, fun b7 w4 u4 => ?_⟩⟩, fun b7 w4 u4 => ?_⟩⟩, fun b7 w4 u4 => ?_⟩⟩, fun b7 w4 u4 => ?_⟩
  · have v3 := v2.then u3
    have v4 := v3.then u4
    have y3 := u3.size
    refine udTail (m1 := [b3]) (n1 := [b7]) (m2 := []) (n2 := [b7]) o hf (h.old v4) hb (by omega) (by omega) (by omega) hc ⟨rfl, rfl, rfl, rfl, rfl⟩ ⟨rfl, rfl, rfl, rfl, rfl⟩ (fun w6 u6 => (h.old v4).old u6) (fun w6 u6 => bad1 _ (v4.step0 u6 fr)) (fun w6 w7 w8 u6 u7 u8 => bad2 _ (((v4.then u6).then u7).step0 u8 fr)) (fun w6 w7 w8 u6 u7 u8 => ?_)
    have q : ∀ x ∈ d.blk, x ∉ [b3] := fun x hx hm => by have := (hod.blk x hx).1; simp at hm; omega
    exact good d _ (((v4.then u6).then u7).step0 u8 fr) (((hd.old u6).old u7).upd u8 q) ((((hod.old u6).old u7).upd u8 q).mono (by have := v3.size; omega))
  have vA := (v2.then u3).then u4
  have hz := (v2.then u3).size
  have y3 := u3.size
  have n7 := u4.new (b := b7) (by simp)
  rotate_left
  have vA := (v2.then u3).then u4
  have hz := (v2.then u3).size
  have y3 := u3.size
  have n7 := u4.new (b := b7) (by simp)
  refine n84 6 (by omega) (h.old vA) ⟨_, rfl, kp (Upd.refl _), ?_⟩
  rotate_left
  have vA := (v2.then u3).then u4
  have hz := (v2.then u3).size
  have y3 := u3.size
  have n7 := u4.new (b := b7) (by simp)
  refine n84 2 (by omega) (h.old vA) ⟨_, rfl, kp (Upd.refl _), n84 6 (by omega) (h.old vA) ⟨_, rfl, kp (Upd.refl _), ?_⟩⟩
  rotate_left
  have vA := v2.then u4
  have hz := v2.size
  have n7 := u4.new (b := b7) (by simp)
  refine n84 0 (by omega) (h.old vA) ⟨_, rfl, kp (Upd.refl _), n84 2 (by omega) (h.old vA) ⟨_, rfl, kp (Upd.refl _), n84 6 (by omega) (h.old vA) ⟨_, rfl, kp (Upd.refl _), ?_⟩⟩⟩
  all_goals
    refine n40 (h.old vA) fun d w5 u5 hd hod => ⟨_, rfl, kp u5, ?_⟩
    have v5 := vA.then u5
    have fr7 : ∀ x ∈ [b7], w.heap.size ≤ x := by simp; omega
    refine udTail (m1 := [b3, b7]) (n1 := []) (m2 := [b7]) (n2 := []) o hf (h.old v5) hb (by omega) (by omega) (by omega) hc ⟨rfl, rfl, rfl, rfl, rfl⟩ ⟨rfl, rfl, rfl, rfl, rfl⟩ (fun w6 u6 => h.upd' (h.old v5) u6 fr7) (fun w6 u6 => bad1 _ (v5.step0 u6 (by simp; omega))) (fun w6 w7 w8 u6 u7 u8 => bad2 _ (((v5.step0 u6 fr7).then u7).step0 u8 fr)) (fun w6 w7 w8 u6 u7 u8 => ?_)
    have q : ∀ x ∈ d.blk, x ∉ [b3] := fun x hx hm => by have := (hod.blk x hx).1; simp at hm; omega
    have q7 : ∀ x ∈ d.blk, x ∉ [b7] := fun x hx hm => by have := (hod.blk x hx).1; simp at hm; omega
    exact good d _ (((v5.step0 u6 fr7).then u7).step0 u8 fr) (((hd.upd u6 q7).old u7).upd u8 q) ((((hod.upd u6 q7).old u7).upd u8 q).mono (by omega))
end
end Go.Vc.S9
end

section
open Go Go.Vc Go.Proofs
set_option linter.unusedVariables false
set_option linter.unusedSimpArgs false
set_option autoImplicit false
namespace Go.Vc.S9
def stA (k : Int) : Nat → Int := fset (fset (fset (fset (fun (x : Nat) => 0) 0 10) 1 0) 2 0) 3 k
def stE : Ends := ⟨4, stA 1, 4, stA 2⟩
theorem stA_four (k : Int) : ∀ i, i < 16 → 4 ≤ i → stA k i = 0 := fun i h2 h1 => by
  unfold stA
  have hne : ∀ n : Nat, n < 4 → Nat.beq i n = false := fun n hn => by rw [← Bool.not_eq_true, Nat.beq_eq]; omega
  simp [fset, hne]
theorem stE_fit : stE.fit := by
  have h : ∀ k, verOf 4 (stA k) = 4 := fun k => by unfold verOf; rw [if_neg (by decide), if_pos ⟨rfl, stA_four k⟩]
  exact ⟨by show verOf 4 (stA 1) ≠ 0; rw [h]; decide, by show verOf 4 (stA 2) = verOf 4 (stA 1); rw [h, h]⟩
theorem stA_r (k : Int) (h0 : 0 ≤ k) (h1 : k < 256) : ∀ i, i < 16 → 0 ≤ stA k i ∧ stA k i < 256 := fun i hi => by
  unfold stA fset
  simp only
  repeat' split
  all_goals omega
theorem stE_ok : stE.Ok := ⟨stA_r 1 (by decide) (by decide), stA_r 2 (by decide) (by decide)⟩
def stU : UdV := ⟨1, 2, false, [104, 105]⟩
def stL : List Int := [0, 1, 0, 2, 0, 10, 131, 107, 104, 105]
theorem stU_ser : udSer stE stU = stL := by decide
theorem stU_pe : udPE stE stU = 0 := by
  rw [udPE_fit stE_fit]
  unfold udChk
  rw [if_neg (by decide), if_neg (by unfold outN9; decide), if_neg (by decide)]
theorem stU_fit : UFit stU := ⟨by simp [stU, Byt]⟩
theorem stU_back : udErr stE stL = 0 ∧ udOf stE stL = stU := by rw [← stU_ser]; exact ud_back stE_ok stU_fit stU_pe
def stT : TcV := ⟨1, 2, 0, 0, 0, 0, 0, [⟨3, [7]⟩], []⟩
theorem stT_fit : TFit stT := ⟨by simp [stT, Byt], by simp [stT, Byt]⟩
theorem stT_pe : tcPE stE stT = 0 := by
  rw [tcPE_fit stE_fit]
  decide
theorem stT_len : (tcSer stE stT).length = 24 := by decide
theorem stT_back : tcErr stE (tcSer stE stT) = 0 ∧ tcOf stE (tcSer stE stT) = stT := tc_back stE_ok stT_fit stT_pe
theorem stN_err : tcErr stE [] = 94 := by
  unfold tcErr
  rw [if_neg (by decide), if_neg (Classical.not_not.2 stE_fit), if_pos (by decide)]
def stM : TcV := ⟨0, 0, 0, 0, 0, 0, 0, [⟨2, [5, 180]⟩], []⟩
theorem stM_mss : mssI stM.opts = 1460 ∧ mssB stM.opts = true := by decide
theorem stT_clamp : clampT stT 9 = stT := by
  have h : stT.opts.map (clampO (synOf stT.fl) (imax 9 0)) = stT.opts := by decide
  unfold clampT
  rw [h]
def stB : UdV := ⟨-1, 0, false, List.replicate 65528 0⟩
theorem stB_chk : udChk 4 stB = 98 := by
  unfold udChk
  rw [if_neg (by decide), if_pos (.inl (by unfold outN9 stB; left; decide))]
section
variable {w : World} {R : SV → World → Prop}
theorem c69 (k : ∀ w1, Upd [] [] w w1 → R (.tuple [adr 4 (stA 1), adr 4 (stA 2)]) w1) : Ret Tryd.prog 69 [] w R := by
  refine f69_of _ _ ?_
  unfold vc69
  intro b b1 w1 u1
  exact k w1 u1.forget
theorem opt1 {w : World} {b b2 e n : Nat} {cs : List Value} {kd : Int} {dl : List Int} {d : Sl} (h : w.heap[b]? = some (.cells cs.toArray e (0, 0))) (hc : cs = [.int .i64 kd, d.val]) (hd : SeesB w d dl) : Opts w ⟨some ⟨b, 0, none⟩, 1, 1⟩ [⟨kd, dl⟩] [(kd, d)] where
  row := sees_row h [(kd, d)] hc rfl
  len := rfl
  kind i hi := by have : i = 0 := by simpa using hi
                  subst this; rfl
  each i hi := by have : i = 0 := by simpa using hi
                  subst this; exact hd
set_option maxRecDepth 10000 in
theorem c18 (hg : Tabs w) (k : ∀ w1, Upd [] [] w w1 → R (.bool true) w1) : Ret Tryd.prog 18 [] w R := by
  refine f18_of _ _ ?_
  unfold vc18
  refine c69 fun w1 u1 => ⟨_, _, _, _, rfl, ?_⟩
  intro b b1 w2 u2 b2 w3 u3 hr3
  have n2 := u3.new (b := b2) (by simp)
  have nb := u2.new (b := b) (by simp)
  have nb1 := u2.new (b := b1) (by simp)
  have y1 := u1.size; have y2 := u2.size; have y3 := u3.size
  refine deref_iff.2 ⟨_, rfl, _, _, hr3, by simp; omega, fun w4 u4 hr4 b3 w5 u5 => ?_⟩
  have v3 := (u1.then u2).then u3
  have v4 := v3.step0 u4 (by simp; omega)
  have v5 := v4.then u5
  have s4 : SeesB w4 ⟨some ⟨b2, 0, none⟩, 2, 2⟩ [104, 105] := rowB hr4 _ rfl rfl
  refine c19 (e := stE) (u := stU) (hg.old v5) stE_ok stU_fit (s4.old u5) fun s w6 u6 hs6 _ => ⟨_, _, rfl, kp u6, ?_⟩
  unfold udSerL at hs6
  rw [if_pos stU_pe, stU_ser] at hs6
  have v6 := v5.then u6
  intro b4 w7 u7 hr7
  have v7 := v6.then u7
  have s7 : SeesB w7 ⟨some ⟨b4, 0, none⟩, 10, 10⟩ stL := rowB hr7 _ rfl rfl
  have bL : Byt stL := by intro x hx; simp [stL] at hx; omega
  refine c21 (e := stE) (hg.old v7) stE_ok s7 bL (Nat.le_refl _) (by decide) fun w8 u8 => ⟨_, _, _, _, _, rfl, kp u8, ?_⟩
  have v8 := v7.then u8
  have d8 := dU_sees (e := stE) (s7.old u8)
  intro b6 w9 u9 b7 w10 u10 hr10 b8 w11 u11 hr11 b9 w12 u12
  have v12 := (((v8.then u9).then u10).then u11).then u12
  have s10 : SeesB w10 ⟨some ⟨b7, 0, none⟩, 1, 1⟩ [7] := rowB hr10 _ rfl rfl
  have O11 : Opts w11 ⟨some ⟨b8, 0, none⟩, 1, 1⟩ stT.opts [(3, ⟨some ⟨b7, 0, none⟩, 1, 1⟩)] := opt1 (b2 := 0) (n := 0) hr11 rfl (s10.old u11)
  have O12 := O11.old u12
  refine c26 (e := stE) (t := stT) (hg.old v12) stE_ok stT_fit O12 (by decide) (by simp [stT]) (Sees.nil _ _ _ _) (by decide) fun c w13 u13 hc13 hoc13 => ⟨_, _, rfl, kp u13, ?_⟩
  unfold tcSerL at hc13
  rw [if_pos stT_pe] at hc13
  have v13 := v12.then u13
  have bC := tcSer_byt (e := stE) (tcPE_ok stT_pe).2 stT_fit
  refine c27 (e := stE) (hg.old v13) stE_ok hc13 bC hoc13.le (by rw [stT_len]; decide) fun so w14 u14 hs14 _ => ⟨_, _, _, _, _, _, _, _, _, _, rfl, kp u14, ?_⟩
  have v14 := v13.then u14
  have O14 := osT_opts bC (hc13.old u14) hs14
  have D14 := dT_sees (e := stE) (hc13.old u14)
  intro b10 w15 u15
  have v15 := v14.then u15
  refine c27 (e := stE) (l := []) (hg.old v15) stE_ok (Sees.nil _ _ _ _) (by simp [Byt]) (Nat.le_refl _) (by simp) fun so2 w16 u16 _ _ => ⟨_, _, _, _, _, _, _, _, _, _, rfl, kp u16, ?_⟩
  have v16 := v15.then u16
  intro b11 w17 u17 b12 w18 u18 hr18 b13 w19 u19 hr19
  have v19 := ((v16.then u17).then u18).then u19
  have s18 : SeesB w18 ⟨some ⟨b12, 0, none⟩, 2, 2⟩ [5, 180] := rowB hr18 _ rfl rfl
  have O19 : Opts w19 ⟨some ⟨b13, 0, none⟩, 1, 1⟩ stM.opts [(2, ⟨some ⟨b12, 0, none⟩, 2, 2⟩)] := opt1 (b2 := 0) (n := 0) hr19 rfl (s18.old u19)
  refine c36 (t := stM) (d := ⟨none, 0, 0⟩) O19 (by simp [stM, Byt]) (by decide) fun w20 u20 => ⟨_, _, rfl, kp u20, ?_⟩
  rw [stM_mss.1, stM_mss.2]
  have v20 := v19.then u20
  have t1220 := (((((((u13.then u14).then u15).then u16).then u17).then u18).then u19).then u20)
  refine c35 (t := stT) (d := ⟨none, 0, 0⟩) (O12.old t1220) (by simp [stT, Byt]) (by decide) (by simp [stT]) fun sk ok w21 u21 hk21 _ _ _ _ => ⟨_, _, _, _, _, _, _, _, _, rfl, kp u21, ?_⟩
  rw [stT_clamp] at hk21 ⊢
  have v21 := v20.then u21
  intro b15 w22 u22 b16 w23 u23 hr23
  have v23 := (v21.then u22).then u23
  refine c25 (u := stB) (v := 4) (by show 65528 = (List.replicate 65528 (0 : Int)).length; rw [List.length_replicate]) fun w24 u24 => ⟨_, rfl, kp u24, ?_⟩
  rw [stB_chk, stU_back.1, stU_pe, stT_pe, stT_back.1, stN_err]
  have v24 := v23.then u24
  intro J hJ
  refine c20 ⟨_, rfl, kp (Upd.refl _), brt rfl (c20 ⟨_, rfl, kp (Upd.refl _), brt rfl (c20 ⟨_, rfl, kp (Upd.refl _), brt rfl (c20 ⟨_, rfl, kp (Upd.refl _), brt rfl (c20 ⟨_, rfl, kp (Upd.refl _), brt rfl (c20 ⟨_, rfl, kp (Upd.refl _), brt rfl (brt rfl (brt rfl ?_))⟩)⟩)⟩)⟩)⟩)⟩
  (repeat refine And.intro rfl ?_)
  have hcl := hc13.len
  rw [stT_len] at hcl
  rw [show ((c.len : Int) == 24) = true by rw [hcl]; rfl]
  refine hJ _ _ (brt rfl ?_)
  intro b18 w25 u25 hr25
  have s25 : SeesB w25 ⟨some ⟨b18, 0, none⟩, 10, 10⟩ stL := rowB hr25 _ rfl rfl
  have t2125 := ((u22.then u23).then u24).then u25
  have t1225 := (t1220.then u21).then t2125
  have t625 : Upd [] [] w6 w25 := (((((u7.forget.then u8).then u9).then u10).then u11).then u12).then t1225
  refine c30 (hs6.old t625) s25 bL bL ⟨_, rfl, kp (Upd.refl _), ?_⟩
  refine brt (by simp) ?_
  have t825 : Upd [] [] w8 w25 := (((u9.forget.then u10).then u11).then u12).then t1225
  have hda : SeesB w25 (dU stE ⟨some ⟨b4, 0, none⟩, 10, 10⟩ stL) stU.data := by rw [← stU_back.2]; exact d8.old t825
  rw [stU_back.2]
  refine c23T (u := stU) (((s4.old u5).old u6).old t625) hda stU_fit.data fun w26 u26 => ⟨_, rfl, kp u26, brt rfl ?_⟩
  have O12_26 := (O12.old t1225).old u26
  rw [stT_back.2] at O14 D14 ⊢
  have t1426 : Upd [] [] w14 w26 := ((((((((u15.forget.then u16).then u17).then u18).then u19).then u20).then u21).then t2125).then u26)
  refine c28T (t := stT) (O14.old t1426) O12_26 stT_fit.opts (by decide) (D14.old t1426) (Sees.nil _ _ _ _) stT_fit.data fun w27 u27 => ⟨_, rfl, kp u27, brt rfl ?_⟩
  refine c28T (t := stT) ((hk21.old t2125).old (u26.then u27)) (O12_26.old u27) stT_fit.opts (by decide) (Sees.nil _ _ _ _) (Sees.nil _ _ _ _) stT_fit.data fun w28 u28 => ⟨_, rfl, kp u28, ?_⟩
  exact k w28 ((((v24.then u25).then u26).then u27).then u28)
end
end Go.Vc.S9
end

section
open Go Go.Vc
set_option linter.unusedVariables false
set_option linter.unusedSimpArgs false
set_option autoImplicit false
namespace Go.Vc
theorem cells_each {α : Type} {c : Cod α} {w : World} : ∀ {l : List α} {a : Addr}, (∀ i (hi : i < l.length), Cells w (some (a.add (i * c.sz))) (c.enc l[i])) → Cells w (some a) (c.cells l)
  | [], a, _ => by intro i hi; simp [Cod.cells] at hi
  | x :: r, a, h => by
    rw [Cod.cells_cons]
    refine Cells.mk ?_ (cells_each fun i hi => ?_)
    · have := h 0 (by simp)
      rw [Nat.zero_mul, add_zero] at this
      exact this
    · have h1 := h (i + 1) (by simp; omega)
      rw [c.len, add_add, show c.sz + i * c.sz = (i + 1) * c.sz by rw [Nat.add_mul, Nat.one_mul, Nat.add_comm]]
      exact h1
section
open Go.ChangeShapes Go.WideShapes Go.ChangeAt Go.RowKit
variable {H : Type} {X : Tab} {w : World}
/-- a slice of structs of plain values -/
theorem dp_slice {α : Type} {c : Cod α} {P : α → Prop} {m e : Nat} {x : SV} {d : DataW H} (hsz : (X.T e).size = c.sz)
    (hE : ∀ (m : Nat) (x : SV) (d : DataW H), Deep X w m (X.T e) x d → ∃ a : α, x.cells = c.enc a ∧ P a) (h : Deep X w m (.slice e) x d) :
    ∃ (s : Sl) (l : List α), x = .slice s ∧ Sees c w s l ∧ (∀ a ∈ l, P a) ∧ s.len ≤ s.cap ∧ (d = .nil ∧ l = [] ∨ ∃ els sp, d = .slice els sp ∧ els.length = l.length) := by
  cases m with
  | zero => exact h.elim
  | succ m =>
    simp only [Deep] at h
    rcases h with ⟨rfl, rfl⟩ | ⟨a, len, cap, vs, ds, rfl, rfl, hl, hm, hv, hd, h⟩
    · exact ⟨⟨none, 0, 0⟩, [], rfl, Sees.nil _ _ _ _, by simp, Nat.le_refl _, .inl ⟨rfl, rfl⟩⟩
    · have each : ∀ i (hi : i < cap), ∃ t : α, Cells w (some (a.add (i * c.sz))) (c.enc t) ∧ P t := by
        intro i hi
        obtain ⟨h1, h2, h3⟩ := h i _ _ (List.getElem?_eq_getElem (by omega)) (List.getElem?_eq_getElem (by omega))
        obtain ⟨t, g1, g2⟩ := hE _ _ _ h3
        rw [hsz, g1] at h2
        exact ⟨t, h2, g2⟩
      let F : Fin len → α := fun i => Classical.choose (each i (by omega))
      have hF : ∀ i : Fin len, Cells w (some (a.add (i * c.sz))) (c.enc (F i)) ∧ P (F i) := fun i => Classical.choose_spec (each i (by omega))
      refine ⟨⟨some a, len, cap⟩, List.ofFn F, rfl, ⟨by simp, cells_each fun i hi => ?_⟩, fun y hy => ?_, hl, .inr ⟨_, _, rfl, by simp; omega⟩⟩
      · rw [List.getElem_ofFn]
        exact (hF ⟨i, by simpa using hi⟩).1
      · obtain ⟨i, rfl⟩ := List.mem_ofFn.1 hy
        exact (hF i).2
end
end Go.Vc
end

section
open Go Go.Vc
set_option linter.unusedVariables false
set_option linter.unusedSimpArgs false
set_option autoImplicit false
namespace Go.Vc
section
open Go.ChangeShapes Go.WideShapes Go.ChangeAt Go.RowKit
variable {H : Type} {X : Tab} {w : World}
/-- a slice's datum and its length -/
def SlLen (d : DataW H) (n : Nat) : Prop := (d = .nil ∧ n = 0) ∨ ∃ els sp, d = .slice els sp ∧ els.length = n
theorem deep_bytes' {m t e : Nat} {x : SV} {d : DataW H} (hT : X.T t = .slice e) (hE : X.T e = .int .u8) (h : Deep X w m (X.T t) x d) :
    ∃ (s : Sl) (l : List Int), x = .slice s ∧ SeesB w s l ∧ Byt l ∧ s.len ≤ s.cap ∧ SlLen d l.length := by
  obtain ⟨s, l, h1, h2, h3, h4, h5, h6⟩ := deep_bytes hT hE h
  refine ⟨s, l, h1, h2, h3, h4, ?_⟩
  rcases h6 with ⟨rfl, rfl⟩ | ⟨els, sp, rfl, h7, _⟩
  · left; exact ⟨rfl, by have := h2.len; simpa using this.symm⟩
  · right; exact ⟨els, sp, rfl, h7⟩
/-- a slice of options -/
theorem dp_opts {m t e t2 e2 : Nat} {x : SV} {d : DataW H} (hT : X.T t = .slice e) (hE : X.T e = .struct false [.int .i64, .slice e2]) (hT2 : X.T t2 = .slice e2) (hE2 : X.T e2 = .int .u8) (h : Deep X w m (X.T t) x d) :
    ∃ (s : Sl) (l : List Opt) (os : List (Int × Sl)), x = .slice s ∧ Opts w s l os ∧ (∀ o ∈ l, Byt o.data) ∧ (∀ y ∈ os, y.2.len ≤ y.2.cap) ∧ s.len ≤ s.cap ∧
      (d = .nil ∧ l = [] ∨ ∃ els sp, d = .slice els sp ∧ els.length = l.length ∧ ∀ i (hi : i < l.length), ∃ dk dd, els[i]? = some (.agg [dk, dd]) ∧ SlLen dd l[i].data.length) := by
  rw [hT] at h
  cases m with
  | zero => exact h.elim
  | succ m =>
    simp only [Deep] at h
    rcases h with ⟨rfl, rfl⟩ | ⟨a, len, cap, vs, ds, rfl, rfl, hl, hm, hv, hd, h⟩
    · exact ⟨⟨none, 0, 0⟩, [], [], rfl, Opts.nil _ _ _, by simp, by simp, Nat.le_refl _, .inl ⟨rfl, rfl⟩⟩
    · have each : ∀ i (hi : i < cap), ∃ (o : Opt) (s : Sl), Cells w (some (a.add (i * 2))) (cOpt.enc (o.kind, s)) ∧ SeesB w s o.data ∧ Byt o.data ∧ s.len ≤ s.cap ∧ ∃ dk dd, ds[i]'(by omega) = .agg [dk, dd] ∧ SlLen dd o.data.length := by
        intro i hi
        obtain ⟨h1, h2, h3⟩ := h i _ _ (List.getElem?_eq_getElem (by omega)) (List.getElem?_eq_getElem (by omega))
        rw [hE] at h3 h2
        obtain ⟨fs, l, m', e1, e2', q⟩ := dp_struct h3
        obtain ⟨x1, _, d1, _, rfl, rfl, q1, q⟩ := all3_cons q
        obtain ⟨x2, _, d2, _, rfl, rfl, q2, q⟩ := all3_cons q
        obtain ⟨rfl, rfl⟩ := all3_nil q
        obtain ⟨k, rfl, _, _⟩ := dp_int q1
        rw [← hT2] at q2
        obtain ⟨s, l, rfl, g2, g3, g4, g5⟩ := deep_bytes' hT2 hE2 q2
        refine ⟨⟨k, l⟩, s, ?_, g2, g3, g4, d1, d2, e2', g5⟩
        rw [e1] at h2
        exact h2
      let F : Fin len → Opt := fun i => Classical.choose (each i (by omega))
      have hF0 : ∀ i : Fin len, ∃ (s : Sl), Cells w (some (a.add (i * 2))) (cOpt.enc ((F i).kind, s)) ∧ SeesB w s (F i).data ∧ Byt (F i).data ∧ s.len ≤ s.cap ∧ ∃ dk dd, ds[i.val]'(by omega) = .agg [dk, dd] ∧ SlLen dd (F i).data.length := fun i => Classical.choose_spec (each i (by omega))
      let G : Fin len → Sl := fun i => Classical.choose (hF0 i)
      have hG : ∀ i : Fin len, Cells w (some (a.add (i * 2))) (cOpt.enc ((F i).kind, G i)) ∧ SeesB w (G i) (F i).data ∧ Byt (F i).data ∧ (G i).len ≤ (G i).cap ∧ ∃ dk dd, ds[i.val]'(by omega) = .agg [dk, dd] ∧ SlLen dd (F i).data.length := fun i => Classical.choose_spec (hF0 i)
      refine ⟨⟨some a, len, cap⟩, List.ofFn F, List.ofFn fun i => ((F i).kind, G i), rfl, ⟨⟨by simp, cells_each fun i hi => ?_⟩, by simp, fun i hi => by simp, fun i hi => ?_⟩, fun y hy => ?_, fun y hy => ?_, hl, .inr ⟨_, _, rfl, by simp; omega, fun i hi => ?_⟩⟩
      · rw [List.getElem_ofFn]
        exact (hG ⟨i, by simpa using hi⟩).1
      · simp only [List.getElem_ofFn]
        exact (hG ⟨i, by simpa using hi⟩).2.1
      · obtain ⟨i, rfl⟩ := List.mem_ofFn.1 hy
        exact (hG i).2.2.1
      · obtain ⟨i, rfl⟩ := List.mem_ofFn.1 hy
        exact (hG i).2.2.2.1
      · simp only [List.getElem_ofFn]
        have hi' : i < len := by simpa using hi
        obtain ⟨dk, dd, e1, e2'⟩ := (hG ⟨i, hi'⟩).2.2.2.2
        refine ⟨dk, dd, ?_, e2'⟩
        rw [List.getElem?_take_of_lt hi', List.getElem?_eq_getElem (by omega)]
        exact congrArg some e1

/-! ### what weighs little is short -/
theorem weightsAll_mem {P : Program} {e : Nat} : ∀ {ds : List (DataW H)} {i : Nat} {d : DataW H}, ds[i]? = some d → ∀ n ∈ d.weights P e, n ∈ DataW.weightsAll P e ds
  | [], _, _, h, _, _ => by simp at h
  | x :: r, 0, d, h, n, hn => by
    simp at h; subst h
    simp only [DataW.weightsAll, List.mem_append]; exact .inl hn
  | x :: r, i + 1, d, h, n, hn => by
    simp only [DataW.weightsAll, List.mem_append]
    exact .inr (weightsAll_mem (i := i) (by simpa using h) n hn)
/-- all that is reached in a datum weighs at most that -/
def Light (P : Program) (t : Nat) (d : DataW H) : Prop := ∀ n ∈ d.weights P t, n ≤ 140737488351232
theorem light_arg {P : Program} {ts : List Nat} {ds : List (DataW H)} (h : (DataW.weightsEach P ts ds).all (· ≤ reachBytes) = true) : ∀ n ∈ DataW.weightsEach P ts ds, n ≤ 140737488351232 := fun n hn => by
  have h1 := List.all_eq_true.1 h n hn
  have h2 : n ≤ reachBytes := of_decide_eq_true h1
  exact h2
theorem light_head {P : Program} {t : Nat} {ts : List Nat} {d : DataW H} {ds : List (DataW H)} (h : ∀ n ∈ DataW.weightsEach P (t :: ts) (d :: ds), n ≤ 140737488351232) : Light P t d ∧ ∀ n ∈ DataW.weightsEach P ts ds, n ≤ 140737488351232 :=
  ⟨fun n hn => h n (by simp only [DataW.weightsEach, List.mem_append]; exact .inl hn), fun n hn => h n (by simp only [DataW.weightsEach, List.mem_append]; exact .inr hn)⟩
theorem light_struct {P : Program} {t : Nat} {fs : Array Field} {ts : List Nat} {l : List (DataW H)} (hu : P.underlying t = some (.struct fs)) (ht : fs.toList.map (·.type) = ts) (h : Light P t (.agg l)) : ∀ n ∈ DataW.weightsEach P ts l, n ≤ 140737488351232 := fun n hn => by
  refine h n ?_
  simp only [DataW.weights, hu, ht]
  exact hn
theorem light_slice {P : Program} {t e b : Nat} {els sp : List (DataW H)} (hu : P.underlying t = some (.slice e)) (hb : P.bytesOf e = b) (h : Light P t (.slice els sp)) : els.length * b ≤ 140737488351232 ∧ ∀ (i : Nat) (d : DataW H), els[i]? = some d → Light P e d := by
  refine ⟨?_, fun i d hd n hn => ?_⟩
  · have := h ((els.length + sp.length) * b) (by simp only [DataW.weights, hu, hb]; simp)
    rw [Nat.add_mul] at this
    omega
  · exact h n (by simp only [DataW.weights, hu]; simp only [List.mem_cons, List.mem_append]; exact .inr (.inl (weightsAll_mem hd n hn)))
theorem light_len {P : Program} {t e : Nat} {d : DataW H} {n : Nat} (hu : P.underlying t = some (.slice e)) (hb : P.bytesOf e = 1) (h : Light P t d) (hd : SlLen d n) : n ≤ 140737488351232 := by
  rcases hd with ⟨_, rfl⟩ | ⟨els, sp, rfl, rfl⟩
  · omega
  · have := (light_slice hu hb h).1; omega
/-- options that weigh little -/
theorem light_opts {P : Program} {t e t2 e2 t1 : Nat} {fs : Array Field} {d : DataW H} {l : List Opt} (hu : P.underlying t = some (.slice e)) (hb : P.bytesOf e = 32) (hs : P.underlying e = some (.struct fs)) (hft : fs.toList.map (·.type) = [t1, t2]) (hu2 : P.underlying t2 = some (.slice e2)) (hb2 : P.bytesOf e2 = 1) (h : Light P t d)
    (hd : d = .nil ∧ l = [] ∨ ∃ els sp, d = .slice els sp ∧ els.length = l.length ∧ ∀ i (hi : i < l.length), ∃ dk dd, els[i]? = some (.agg [dk, dd]) ∧ SlLen dd l[i].data.length) :
    l.length ≤ 4398046511000 ∧ ∀ o ∈ l, o.data.length ≤ 140737488351232 := by
  rcases hd with ⟨rfl, rfl⟩ | ⟨els, sp, rfl, he, hh⟩
  · simp
  · obtain ⟨h1, h2⟩ := light_slice hu hb h
    refine ⟨by omega, fun o ho => ?_⟩
    obtain ⟨i, hi, rfl⟩ := List.getElem_of_mem ho
    obtain ⟨dk, dd, e1, e2'⟩ := hh i hi
    have h3 := light_struct hs hft (h2 _ _ e1)
    exact light_len hu2 hb2 (light_head (light_head h3).2).1 e2'
end
end Go.Vc
end

section
open Go Go.Vc Go.Proofs Go.ChangeShapes Go.WideShapes Go.ChangeAt Go.RowKit
set_option linter.unusedVariables false
set_option maxRecDepth 100000
namespace Go.Proofs.YtmchllbemgnieaaDoor
theorem own : ownKnob Tryd.prog.godebug = none := by kernel_rfl
theorem laidOut : laidOutB Tryd.prog = true := by kernel_rfl
theorem gU : Tryd.prog.globalNamed "weir/l4.udpWidths" = some 0 := by kernel_rfl
theorem gT : Tryd.prog.globalNamed "weir/l4.tcpWidths" = some 1 := by kernel_rfl
theorem gL : Tryd.prog.globalNamed "weir/l4.lengths" = some 2 := by kernel_rfl
theorem gUT : (Tryd.prog.globals[0]?).map (·.type) = some 117 := by kernel_rfl
theorem gTT : (Tryd.prog.globals[1]?).map (·.type) = some 127 := by kernel_rfl
theorem gLT : (Tryd.prog.globals[2]?).map (·.type) = some 146 := by kernel_rfl
theorem cells117 : Tryd.prog.cellsOf 117 = 4 := by kernel_rfl
theorem cells127 : Tryd.prog.cellsOf 127 = 10 := by kernel_rfl
theorem cells146 : Tryd.prog.cellsOf 146 = 9 := by kernel_rfl
theorem cells3 : Tryd.prog.cellsOf 3 = 1 := by kernel_rfl
theorem cells145 : Tryd.prog.cellsOf 145 = 1 := by kernel_rfl
theorem und117 : Tryd.prog.underlying 117 = some (.array 4 3) := by kernel_rfl
theorem und127 : Tryd.prog.underlying 127 = some (.array 10 3) := by kernel_rfl
theorem und146 : Tryd.prog.underlying 146 = some (.array 9 145) := by kernel_rfl
theorem und3 : Tryd.prog.underlying 3 = some (.int .i64) := by kernel_rfl
theorem und145 : Tryd.prog.underlying 145 = some (.int .u64) := by kernel_rfl
/-- what the row's list gives: the tables' cells -/
theorem table {W : World} (h : laidMetH Tryd.prog [("weir/l4.udpWidths", Rows.laid_weir_l4_udpWidths), ("weir/l4.tcpWidths", Rows.laid_weir_l4_tcpWidths), ("weir/l4.lengths", Rows.laid_weir_l4_lengths)] W) : S9.Tabs W := by
  have h0 : laidMet Tryd.prog [("weir/l4.udpWidths", Rows.laid_weir_l4_udpWidths), ("weir/l4.tcpWidths", Rows.laid_weir_l4_tcpWidths), ("weir/l4.lengths", Rows.laid_weir_l4_lengths)] W := h
  have h1 := h0.tail
  have h2 := h1.tail
  have t0 : Lib.TabIs Tryd.prog W "weir/l4.udpWidths" .i64 widthsU := Lib.tabIs_of_head gU gUT und117 und3 cells3 cells117 h0
  have t1 : Lib.TabIs Tryd.prog W "weir/l4.tcpWidths" .i64 widthsT := Lib.tabIs_of_head gT gTT und127 und3 cells3 cells127 h1
  have t2 : Lib.TabIs Tryd.prog W "weir/l4.lengths" .u64 S9.lens9 := Lib.tabIs_of_head gL gLT und146 und145 cells145 cells146 h2
  refine ⟨⟨rfl, fun i hi => ?_⟩, ⟨rfl, fun i hi => ?_⟩, fun i hi => ?_⟩
  · have hi' : i < 4 := hi
    have := t0.cell gU i hi'
    rw [add_none, Nat.zero_add, this]
    rcases (by omega : i = 0 ∨ i = 1 ∨ i = 2 ∨ i = 3) with rfl | rfl | rfl | rfl <;> rfl
  · have hi' : i < 10 := hi
    have := t1.cell gT i hi'
    rw [add_none, Nat.zero_add, this]
    rcases (by omega : i = 0 ∨ i = 1 ∨ i = 2 ∨ i = 3 ∨ i = 4 ∨ i = 5 ∨ i = 6 ∨ i = 7 ∨ i = 8 ∨ i = 9) with rfl | rfl | rfl | rfl | rfl | rfl | rfl | rfl | rfl | rfl <;> rfl
  · have := t2.cell gL i hi
    rw [this]
    simp [List.getD_eq_getElem?_getD, List.getElem?_eq_getElem hi]
/-- an object's cells, laid -/
def setO (cs : Array Value) : Obj → Obj
  | .cells _ t frozen => .cells cs t frozen
  | o => o
/-- a world for the witness: the settled one, with the tables -/
noncomputable def laidWorld (os : Os) : World :=
  { World.holding Tryd.prog os ⟨#[], #[], []⟩ with heap := (((World.holding Tryd.prog os ⟨#[], #[], []⟩).heap.modify 0 (setO #[.int .i64 16, .int .i64 16, .int .i64 16, .int .i64 16])).modify 1 (setO #[.int .i64 16, .int .i64 16, .int .i64 32, .int .i64 32, .int .i64 4, .int .i64 4, .int .i64 8, .int .i64 16, .int .i64 16, .int .i64 16])).modify 2 (setO #[.int .u64 0, .int .u64 0, .int .u64 16, .int .u64 8, .int .u64 4, .int .u64 17247241216, .int .u64 0, .int .u64 0, .int .u64 1024]) }
end Go.Proofs.YtmchllbemgnieaaDoor
end
