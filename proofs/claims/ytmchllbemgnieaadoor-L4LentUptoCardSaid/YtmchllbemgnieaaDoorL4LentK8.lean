import Derived.Test.YtmchllbemgnieaaDoorL4LentK3
import Derived.Test.YtmchllbemgnieaaDoorL4LentK7
import Derived.Test.YtmchllbemgnieaaDoorL4LentK6
import Derived.Test.YtmchllbemgnieaaDoorL4LentK2
import Derived.KernelRfl
import Derived.Test.YtmchllbemgnieaaDoorL4LentK5
section
open Go Go.Vc Go.Proofs
set_option linter.unusedVariables false
set_option linter.unusedSimpArgs false
set_option autoImplicit false
namespace Go.Vc
/-- an option's data, written in place -/
theorem Opts.setData {w w1 : World} {s : Sl} {l : List Opt} {os : List (Int × Sl)} {q : Nat} {d : List Int} (h : Opts w s l os) (hq : q < l.length) (hq2 : q < os.length) (hpw : os.Pairwise (fun x y => Apt x.2 y.2)) (hoff : ∀ x ∈ os, ∀ b ∈ x.2.blk, b ∉ s.blk)
    (u : Upd (os[q]).2.blk [] w w1) (hd : SeesB w1 (os[q]).2 d) : Opts w1 s (l.set q ⟨l[q].kind, d⟩) os where
  row := h.row.upd u (fun b hb hm => hoff _ (List.getElem_mem hq2) b hm hb)
  len := by rw [List.length_set]; exact h.len
  kind i hi := by
    rw [List.length_set] at hi
    rw [h.kind i hi]
    by_cases e : q = i
    · subst e; simp
    · rw [List.getElem_set_ne e]
  each i hi := by
    rw [List.length_set] at hi
    by_cases e : q = i
    · subst e; simpa using hd
    · rw [List.getElem_set_ne e]
      refine (h.each i hi).upd u fun b hb hm => ?_
      have hi2 : i < os.length := by rw [h.len]; exact hi
      rcases Nat.lt_or_gt_of_ne e with g | g
      · exact List.pairwise_iff_getElem.1 hpw q i hq2 hi2 g b hm hb
      · exact List.pairwise_iff_getElem.1 hpw i q hi2 hq2 g b hb hm
end Go.Vc
namespace Go.Vc.S9
section
variable {w : World} {R : SV → World → Prop} {t : TcV} {so d : Sl} {os : List (Int × Sl)}
def mixL (f : Opt → Opt) (l : List Opt) (q : Nat) : List Opt := (l.take q).map f ++ l.drop q
theorem mixL_len (f : Opt → Opt) (l : List Opt) (q : Nat) (h : q ≤ l.length) : (mixL f l q).length = l.length := by simp [mixL]; omega
theorem mixL_at (f : Opt → Opt) (l : List Opt) (q : Nat) (h : q < l.length) : (mixL f l q)[q]'(by rw [mixL_len f l q (by omega)]; exact h) = l[q] := by
  unfold mixL
  rw [List.getElem_append_right (by simp; omega)]
  simp [Nat.min_eq_left (Nat.le_of_lt h)]
theorem mixL_succ (f : Opt → Opt) (l : List Opt) (q : Nat) (h : q < l.length) : mixL f l (q + 1) = (mixL f l q).set q (f l[q]) := by
  unfold mixL
  have e1 : ((l.take q).map f).length = q := by simp; omega
  rw [take_snoc h, List.map_append, List.set_append_right _ _ (by omega), e1, Nat.sub_self, List.drop_eq_getElem_cons h, List.set_cons_zero, List.append_assoc]
  rfl
theorem mixL_same (f : Opt → Opt) (l : List Opt) (q : Nat) (h : q < l.length) (he : f l[q] = l[q]) : mixL f l (q + 1) = mixL f l q := by
  rw [mixL_succ f l q h, he]
  have := mixL_at f l q h
  rw [← this]
  exact List.set_getElem_self _
set_option maxRecDepth 10000 in
theorem c57 {most : Int} (hO : Opts w so t.opts os) (hb : ∀ o ∈ t.opts, Byt o.data) (hl : t.opts.length ≤ 4398046511104) (hod : ∀ o ∈ t.opts, o.data.length ≤ 140737488355328) (hD : SeesB w d t.data) (hdl : t.data.length ≤ 140737488355328)
    (hm : -9223372036854775808 ≤ most ∧ most ≤ 9223372036854775807)
    (k : ∀ s os d w1, Upd [] [] w w1 → Opts w1 s (clampT t most).opts os → Own w.heap.size 2 w1 s → (∀ x ∈ os, Own w.heap.size 1 w1 x.2) → SeesB w1 d t.data → Own w.heap.size 1 w1 d → R (tcSV (clampT t most) s d) w1) : Ret Tryd.prog 57 [tcSV t so d, .int .i64 most] w R := by
  refine f57_of _ _ _ _ _ _ _ _ _ _ _ _ ?_
  unfold vc57
  intro b b1 w1 u1
  have n0 := u1.new (b := b) (by simp)
  have n1 := u1.new (b := b1) (by simp)
  have y1 := u1.size
  refine c38 (hO.old u1) hl hod (hD.old u1) hdl fun s os d w2 u2 hs ho hos hpw hof hd hodd hds hdos => ⟨_, _, _, _, _, _, _, _, _, rfl, kp u2, ?_⟩
  have v2 := u1.then u2
  have y2 := u2.size
  intro b2 J hJ
  have hge := imax_ge most 0
  generalize hM : imax most 0 = M at *
  have hcl : (clampT t most).opts = t.opts.map (clampO (synOf t.fl) M) := by rw [← hM]; rfl
  generalize hf : clampO (synOf t.fl) M = f at *
  have main : ∀ w3, Upd [] [b2] w2 w3 → J M w3 := by
    intro w3 u3
    have n2 := u3.new (b := b2) (by simp)
    have y3 := u3.size
    refine hJ _ _ ?_
    have blk3 : ∀ x ∈ os, ∀ z ∈ x.2.blk, w1.heap.size ≤ z ∧ z < w2.heap.size := fun x hx z hz => (hos x hx).blk z hz
    have noB : ∀ x ∈ os, ∀ z ∈ x.2.blk, z ∉ [b, b1, b2] := fun x hx z hz hm => by have := blk3 x hx z hz; simp at hm; omega
    have hol := hs.len
    refine ⟨fun i w4 => ∃ (q : Nat), i = q ∧ q ≤ t.opts.length ∧ Upd [] [] w w4 ∧ w3.heap.size ≤ w4.heap.size ∧ Opts w4 s (mixL f t.opts q) os ∧ Own w1.heap.size 2 w4 s ∧ (∀ x ∈ os, Own w1.heap.size 1 w4 x.2) ∧ SeesB w4 d t.data ∧ Own w1.heap.size 1 w4 d, fun i _ => (t.opts.length - i).toNat,
      ⟨0, rfl, by omega, v2.then u3, Nat.le_refl _, by simpa [mixL] using hs.old u3, ho.old u3, fun x hx => (hos x hx).old u3, hd.old u3, hodd.old u3⟩, ?_⟩
    rintro i w4 ⟨q, rfl, hq, v4, y4, hO4, o4, os4, d4, od4⟩
    have hml := mixL_len f t.opts q hq
    have hsl := hO4.slen
    refine brd (fun hlt => ?_) (fun hge2 w5 u5 => ?_)
    · have hq2 : q < t.opts.length := by omega
      have hq3 : q < os.length := by rw [hs.len]; exact hq2
      have hmq := mixL_at f t.opts q hq2
      have hq4 : q < (mixL f t.opts q).length := by omega
      obtain ⟨g1, g2, g3, g4⟩ := hO4.get q hq4
      rw [hmq] at g1 g3
      have hbq := hb _ (List.getElem_mem hq2)
      intro J1 hJ1
      -- nothing changed
      have keep : f t.opts[q] = t.opts[q] → ∀ w5, Upd [] [] w4 w5 → J1 w5 := fun he w5 u5 => by
        refine hJ1 _ ?_
        (repeat refine And.intro rfl ?_)
        refine ⟨⟨q + 1, wr_succ (by omega), by omega, v4.then u5, by have := u5.size; omega, ?_, o4.old u5, fun x hx => (os4 x hx).old u5, d4.old u5, od4.old u5⟩, ?_⟩
        · rw [mixL_same f t.opts q hq2 he]; exact hO4.old u5
        · rw [wr_succ (q := q) (by omega)]; (try dsimp only); omega
      refine needO hO4 (by omega) (by omega) ⟨_, (by rw [Int.toNat_natCast]; exact g1), _, (by rw [Int.toNat_natCast]; exact g2), ?_⟩
      refine c92 (o := t.opts[q]) g3.len fun w5 u5 => ⟨_, rfl, kp u5, ?_⟩
      intro J2 hJ2
      have hO5 := hO4.old u5
      have y5 := u5.size
      obtain ⟨g1', g2', g3', g4'⟩ := hO5.get q hq4
      rw [hmq] at g3'
      have no : ¬ (tells t.opts[q] ∧ M < W16 t.opts[q].data 0 ∧ synOf t.fl = true) → J2 false w5 := fun hn => by
        refine hJ2 _ _ (brf rfl ?_)
        (repeat refine And.intro rfl ?_)
        exact keep (by rw [← hf]; unfold clampO; rw [if_neg hn]) _ u5
      refine brb (fun ht' => ?_) (fun ht' => ?_)
      rotate_left
      · (repeat refine And.intro rfl ?_)
        exact no (fun x => of_decide_eq_false ht' x.1)
      have ht := of_decide_eq_true ht'
      have ht2 := ht.2
      by_cases hsy : synOf t.fl = true
      rotate_left
      · refine brf (by unfold synOf at hsy; simpa using hsy) ?_
        (repeat refine And.intro rfl ?_)
        exact no (fun x => hsy x.2.2)
      refine brt hsy (needO hO5 (by omega) (by omega) ⟨_, (by rw [Int.toNat_natCast]; exact g2'), ?_⟩)
      refine c84 (n := 2) (i := 0) g3' hbq (by omega) (by omega) (by omega) ⟨_, rfl, kp (Upd.refl _), ?_⟩
      have e84 := bitsN_two hbq 0
      rw [show 8 * 2 = 16 from rfl, e84]
      have eW : bt t.opts[q].data ((0 : Nat) : Int) * 256 + bt t.opts[q].data ((0 + 1 : Nat) : Int) = W16 t.opts[q].data 0 := rfl
      rw [eW]
      by_cases hgt : M < W16 t.opts[q].data 0
      rotate_left
      · rw [decide_eq_false (by omega)]
        (repeat refine And.intro rfl ?_)
        exact no (fun x => hgt x.2.1)
      rw [decide_eq_true (by omega)]
      (repeat refine And.intro rfl ?_)
      refine hJ2 _ _ (brt rfl ?_)
      have hwr := W16_r hbq 0
      rw [tdiv_pos (by omega), wr_i64 (x := M / 256) (by omega) (by omega), tmod_pos (by omega), wr_u8, wr_u8, show M % 256 % 256 = M % 256 by omega]
      have hxo := os4 _ (List.getElem_mem hq3)
      have hxo5 := hxo.old u5
      refine needO hO5 (by omega) (by omega) ⟨_, (by rw [Int.toNat_natCast]; exact g2'), ?_⟩
      refine needCB g3' 0 (by omega) ?_
      refine own_set (c := cU8) (x := M / 256 % 256) g3' hxo5 (by decide) (by omega) rfl (noB _ (List.getElem_mem hq3)) fun w6 h6 o6 u6 => ?_
      have hO6 := hO5.setData hq4 hq3 hpw hof u6 h6
      have hq6 : q < ((mixL f t.opts q).set q ⟨(mixL f t.opts q)[q].kind, t.opts[q].data.set 0 (M / 256 % 256)⟩).length := by rw [List.length_set]; omega
      obtain ⟨_, g26, g36, _⟩ := hO6.get q hq6
      refine needO hO6 (by omega) (by rw [List.length_set]; omega) ⟨_, (by rw [Int.toNat_natCast]; exact g26), ?_⟩
      refine needCB h6 1 (by simp; omega) ?_
      refine own_set (c := cU8) (x := M % 256) h6 o6 (by decide) (by simp; omega) rfl (noB _ (List.getElem_mem hq3)) fun w7 h7 o7 u7 => ?_
      have hO7 := hO6.setData hq6 hq3 hpw hof u7 h7
      rw [List.set_set] at hO7
      have e2 : (t.opts[q].data.set 0 (M / 256 % 256)).set 1 (M % 256) = [M / 256 % 256, M % 256] := by
        generalize t.opts[q].data = l at ht2
        match l, ht2 with
        | [_, _], _ => rfl
      have ef : f t.opts[q] = ⟨t.opts[q].kind, [M / 256 % 256, M % 256]⟩ := by rw [← hf]; unfold clampO; rw [if_pos ⟨ht, hgt, hsy⟩]
      have hO8 : Opts w7 s (mixL f t.opts (q + 1)) os := by
        rw [mixL_succ f t.opts q hq2, ef, ← e2]
        have ek : ((mixL f t.opts q).set q ⟨(mixL f t.opts q)[q].kind, t.opts[q].data.set 0 (M / 256 % 256)⟩)[q].kind = t.opts[q].kind := by
          rw [List.getElem_set_self, hmq]
        rw [ek] at hO7
        exact hO7
      have bq : ∀ z ∈ (os[q]).2.blk, w.heap.size ≤ z := fun z hz => by have := blk3 _ (List.getElem_mem hq3) z hz; omega
      have u67 : Upd (os[q]).2.blk [] w5 w7 := u6.step u7 (fun x hx => .inr hx)
      have y67 := u67.size
      have offs : ∀ x ∈ s.blk, x ∉ (os[q]).2.blk := fun x hx hm => hof _ (List.getElem_mem hq3) x hm hx
      have offd : ∀ x ∈ d.blk, x ∉ (os[q]).2.blk := fun x hx hm => hdos _ (List.getElem_mem hq3) x hx hm
      (repeat refine And.intro rfl ?_)
      refine hJ1 _ ?_
      (repeat refine And.intro rfl ?_)
      refine ⟨⟨q + 1, wr_succ (by omega), by omega, (v4.then u5).step0 u67 bq, by omega, hO8, (o4.old u5).upd u67 offs, fun x hx => ?_, (d4.old u5).upd u67 offd, (od4.old u5).upd u67 offd⟩, ?_⟩
      · obtain ⟨j, hj, rfl⟩ := List.getElem_of_mem hx
        by_cases e : j = q
        · subst e; exact o7
        · refine ((os4 _ (List.getElem_mem hj)).old u5).upd u67 (fun z hz hm => ?_)
          rcases Nat.lt_or_gt_of_ne e with g | g
          · exact List.pairwise_iff_getElem.1 hpw j q hj hq3 g z hz hm
          · exact List.pairwise_iff_getElem.1 hpw q j hq3 hj g z hm hz
      · rw [wr_succ (q := q) (by omega)]; (try dsimp only); omega
    · have hqe : q = t.opts.length := by omega
      subst hqe
      have em : mixL f t.opts t.opts.length = t.opts.map f := by simp [mixL]
      rw [em] at hO4
      have bs := o4.blk
      have q1 : ∀ x ∈ s.blk, x ∉ [b1] := fun x hx hm => by have := (bs x hx).1; simp at hm; omega
      have q2 : ∀ y ∈ os, ∀ x ∈ y.2.blk, x ∉ [b1] := fun y hy x hx hm => by have := blk3 y hy x hx; simp at hm; omega
      have q3 : ∀ x ∈ d.blk, x ∉ [b1] := fun x hx hm => by have := (od4.blk x hx).1; simp at hm; omega
      exact k s os d w5 (v4.step0 u5 (by simp; omega)) (by rw [hcl]; exact hO4.upd u5 q1 q2) ((o4.upd u5 q1).mono y1) (fun x hx => ((os4 x hx).upd u5 (q2 x hx)).mono y1) (d4.upd u5 q3) ((od4.upd u5 q3).mono y1)
  refine brd (fun h0 w3 u3 => ?_) (fun h0 w3 u3 => ?_)
  · (repeat refine And.intro rfl ?_)
    have : M = 0 := by omega
    rw [← this]; exact main w3 u3
  · (repeat refine And.intro rfl ?_)
    have : M = most := by omega
    rw [← this]; exact main w3 u3
end
section
variable {b : Sl} {l : List Int} {w : World} {R : SV → World → Prop}
end
end Go.Vc.S9
end

section
open Go Go.Vc Go.Proofs
set_option linter.unusedVariables false
set_option linter.unusedSimpArgs false
set_option autoImplicit false
namespace Go.Vc.S9
section
variable {e : Ends} {w : World} {R : SV → World → Prop}
end
end Go.Vc.S9
end

section
open Go Go.Vc Go.Proofs
set_option linter.unusedVariables false
set_option linter.unusedSimpArgs false
set_option autoImplicit false
namespace Go.Vc.S9
def stA (k : Int) : Nat → Int := fset (fset (fset (fset (fun (x : Nat) => 0) 0 10) 1 0) 2 0) 3 k
def stE : Ends := ⟨4, stA 1, 4, stA 2⟩
theorem stA_four (k : Int) : ∀ i, i < 16 → 4 ≤ i → stA k i = 0 := fun i h2 h1 => by
  unfold stA
  have hne : ∀ n : Nat, n < 4 → Nat.beq i n = false := fun n hn => by rw [← Bool.not_eq_true, Nat.beq_eq]; omega
  simp [fset, hne]
theorem stE_fit : stE.fit := by
  have h : ∀ k, verOf 4 (stA k) = 4 := fun k => by unfold verOf; rw [if_neg (by decide), if_pos ⟨rfl, stA_four k⟩]
  exact ⟨by show verOf 4 (stA 1) ≠ 0; rw [h]; decide, by show verOf 4 (stA 2) = verOf 4 (stA 1); rw [h, h]⟩
theorem stA_r (k : Int) (h0 : 0 ≤ k) (h1 : k < 256) : ∀ i, i < 16 → 0 ≤ stA k i ∧ stA k i < 256 := fun i hi => by
  unfold stA fset
  simp only
  repeat' split
  all_goals omega
theorem stE_ok : stE.Ok := ⟨stA_r 1 (by decide) (by decide), stA_r 2 (by decide) (by decide)⟩
def stU : UdV := ⟨1, 2, false, [104, 105]⟩
def stL : List Int := [0, 1, 0, 2, 0, 10, 131, 107, 104, 105]
theorem stU_ser : udSer stE stU = stL := by decide
theorem stU_pe : udPE stE stU = 0 := by
  rw [udPE_fit stE_fit]
  unfold udChk
  rw [if_neg (by decide), if_neg (by unfold outN9; decide), if_neg (by decide)]
theorem stU_fit : UFit stU := ⟨by simp [stU, Byt]⟩
theorem stU_back : udErr stE stL = 0 ∧ udOf stE stL = stU := by rw [← stU_ser]; exact ud_back stE_ok stU_fit stU_pe
def stT : TcV := ⟨1, 2, 0, 0, 0, 0, 0, [⟨3, [7]⟩], []⟩
theorem stT_fit : TFit stT := ⟨by simp [stT, Byt], by simp [stT, Byt]⟩
theorem stT_pe : tcPE stE stT = 0 := by
  rw [tcPE_fit stE_fit]
  decide
theorem stT_len : (tcSer stE stT).length = 24 := by decide
theorem stT_back : tcErr stE (tcSer stE stT) = 0 ∧ tcOf stE (tcSer stE stT) = stT := tc_back stE_ok stT_fit stT_pe
theorem stN_err : tcErr stE [] = 94 := by
  unfold tcErr
  rw [if_neg (by decide), if_neg (Classical.not_not.2 stE_fit), if_pos (by decide)]
def stM : TcV := ⟨0, 0, 0, 0, 0, 0, 0, [⟨2, [5, 180]⟩], []⟩
theorem stM_mss : mssI stM.opts = 1460 ∧ mssB stM.opts = true := by decide
theorem stT_clamp : clampT stT 9 = stT := by
  have h : stT.opts.map (clampO (synOf stT.fl) (imax 9 0)) = stT.opts := by decide
  unfold clampT
  rw [h]
def stB : UdV := ⟨-1, 0, false, List.replicate 65528 0⟩
theorem stB_chk : udChk 4 stB = 98 := by
  unfold udChk
  rw [if_neg (by decide), if_pos (.inl (by unfold outN9 stB; left; decide))]
section
variable {w : World} {R : SV → World → Prop}
theorem c69 (k : ∀ w1, Upd [] [] w w1 → R (.tuple [adr 4 (stA 1), adr 4 (stA 2)]) w1) : Ret Tryd.prog 69 [] w R := by
  refine f69_of _ _ ?_
  unfold vc69
  intro b b1 w1 u1
  exact k w1 u1.forget
theorem opt1 {w : World} {b b2 e n : Nat} {cs : List Value} {kd : Int} {dl : List Int} {d : Sl} (h : w.heap[b]? = some (.cells cs.toArray e (0, 0))) (hc : cs = [.int .i64 kd, d.val]) (hd : SeesB w d dl) : Opts w ⟨some ⟨b, 0, none⟩, 1, 1⟩ [⟨kd, dl⟩] [(kd, d)] where
  row := sees_row h [(kd, d)] hc rfl
  len := rfl
  kind i hi := by have : i = 0 := by simpa using hi
                  subst this; rfl
  each i hi := by have : i = 0 := by simpa using hi
                  subst this; exact hd
set_option maxRecDepth 10000 in
theorem c18 (hg : Tabs w) (k : ∀ w1, Upd [] [] w w1 → R (.bool true) w1) : Ret Tryd.prog 18 [] w R := by
  refine f18_of _ _ ?_
  unfold vc18
  refine c69 fun w1 u1 => ⟨_, _, _, _, rfl, ?_⟩
  intro b b1 w2 u2 b2 w3 u3 hr3
  have n2 := u3.new (b := b2) (by simp)
  have nb := u2.new (b := b) (by simp)
  have nb1 := u2.new (b := b1) (by simp)
  have y1 := u1.size; have y2 := u2.size; have y3 := u3.size
  refine deref_iff.2 ⟨_, rfl, _, _, hr3, by simp; omega, fun w4 u4 hr4 b3 w5 u5 => ?_⟩
  have v3 := (u1.then u2).then u3
  have v4 := v3.step0 u4 (by simp; omega)
  have v5 := v4.then u5
  have s4 : SeesB w4 ⟨some ⟨b2, 0, none⟩, 2, 2⟩ [104, 105] := rowB hr4 _ rfl rfl
  refine c19 (e := stE) (u := stU) (hg.old v5) stE_ok stU_fit (s4.old u5) fun s w6 u6 hs6 _ => ⟨_, _, rfl, kp u6, ?_⟩
  unfold udSerL at hs6
  rw [if_pos stU_pe, stU_ser] at hs6
  have v6 := v5.then u6
  intro b4 w7 u7 hr7
  have v7 := v6.then u7
  have s7 : SeesB w7 ⟨some ⟨b4, 0, none⟩, 10, 10⟩ stL := rowB hr7 _ rfl rfl
  have bL : Byt stL := by intro x hx; simp [stL] at hx; omega
  refine c21 (e := stE) (hg.old v7) stE_ok s7 bL (Nat.le_refl _) (by decide) fun w8 u8 => ⟨_, _, _, _, _, rfl, kp u8, ?_⟩
  have v8 := v7.then u8
  have d8 := dU_sees (e := stE) (s7.old u8)
  intro b6 w9 u9 b7 w10 u10 hr10 b8 w11 u11 hr11 b9 w12 u12
  have v12 := (((v8.then u9).then u10).then u11).then u12
  have s10 : SeesB w10 ⟨some ⟨b7, 0, none⟩, 1, 1⟩ [7] := rowB hr10 _ rfl rfl
  have O11 : Opts w11 ⟨some ⟨b8, 0, none⟩, 1, 1⟩ stT.opts [(3, ⟨some ⟨b7, 0, none⟩, 1, 1⟩)] := opt1 (b2 := 0) (n := 0) hr11 rfl (s10.old u11)
  have O12 := O11.old u12
  refine c26 (e := stE) (t := stT) (hg.old v12) stE_ok stT_fit O12 (by decide) (by simp [stT]) (Sees.nil _ _ _ _) (by decide) fun c w13 u13 hc13 hoc13 => ⟨_, _, rfl, kp u13, ?_⟩
  unfold tcSerL at hc13
  rw [if_pos stT_pe] at hc13
  have v13 := v12.then u13
  have bC := tcSer_byt (e := stE) (tcPE_ok stT_pe).2 stT_fit
  refine c27 (e := stE) (hg.old v13) stE_ok hc13 bC hoc13.le (by rw [stT_len]; decide) fun so w14 u14 hs14 _ => ⟨_, _, _, _, _, _, _, _, _, _, rfl, kp u14, ?_⟩
  have v14 := v13.then u14
  have O14 := osT_opts bC (hc13.old u14) hs14
  have D14 := dT_sees (e := stE) (hc13.old u14)
  intro b10 w15 u15
  have v15 := v14.then u15
  refine c27 (e := stE) (l := []) (hg.old v15) stE_ok (Sees.nil _ _ _ _) (by simp [Byt]) (Nat.le_refl _) (by simp) fun so2 w16 u16 _ _ => ⟨_, _, _, _, _, _, _, _, _, _, rfl, kp u16, ?_⟩
  have v16 := v15.then u16
  intro b11 w17 u17 b12 w18 u18 hr18 b13 w19 u19 hr19
  have v19 := ((v16.then u17).then u18).then u19
  have s18 : SeesB w18 ⟨some ⟨b12, 0, none⟩, 2, 2⟩ [5, 180] := rowB hr18 _ rfl rfl
  have O19 : Opts w19 ⟨some ⟨b13, 0, none⟩, 1, 1⟩ stM.opts [(2, ⟨some ⟨b12, 0, none⟩, 2, 2⟩)] := opt1 (b2 := 0) (n := 0) hr19 rfl (s18.old u19)
  refine c36 (t := stM) (d := ⟨none, 0, 0⟩) O19 (by simp [stM, Byt]) (by decide) fun w20 u20 => ⟨_, _, rfl, kp u20, ?_⟩
  rw [stM_mss.1, stM_mss.2]
  have v20 := v19.then u20
  have t1220 := (((((((u13.then u14).then u15).then u16).then u17).then u18).then u19).then u20)
  refine c35 (t := stT) (d := ⟨none, 0, 0⟩) (O12.old t1220) (by simp [stT, Byt]) (by decide) (by simp [stT]) fun sk ok w21 u21 hk21 _ _ _ _ => ⟨_, _, _, _, _, _, _, _, _, rfl, kp u21, ?_⟩
  rw [stT_clamp] at hk21 ⊢
  have v21 := v20.then u21
  intro b15 w22 u22 b16 w23 u23 hr23
  have v23 := (v21.then u22).then u23
  refine c25 (u := stB) (v := 4) (by show 65528 = (List.replicate 65528 (0 : Int)).length; rw [List.length_replicate]) fun w24 u24 => ⟨_, rfl, kp u24, ?_⟩
  rw [stB_chk, stU_back.1, stU_pe, stT_pe, stT_back.1, stN_err]
  have v24 := v23.then u24
  intro J hJ
  refine c20 ⟨_, rfl, kp (Upd.refl _), brt rfl (c20 ⟨_, rfl, kp (Upd.refl _), brt rfl (c20 ⟨_, rfl, kp (Upd.refl _), brt rfl (c20 ⟨_, rfl, kp (Upd.refl _), brt rfl (c20 ⟨_, rfl, kp (Upd.refl _), brt rfl (c20 ⟨_, rfl, kp (Upd.refl _), brt rfl (brt rfl (brt rfl ?_))⟩)⟩)⟩)⟩)⟩)⟩
  (repeat refine And.intro rfl ?_)
  have hcl := hc13.len
  rw [stT_len] at hcl
  rw [show ((c.len : Int) == 24) = true by rw [hcl]; rfl]
  refine hJ _ _ (brt rfl ?_)
  intro b18 w25 u25 hr25
  have s25 : SeesB w25 ⟨some ⟨b18, 0, none⟩, 10, 10⟩ stL := rowB hr25 _ rfl rfl
  have t2125 := ((u22.then u23).then u24).then u25
  have t1225 := (t1220.then u21).then t2125
  have t625 : Upd [] [] w6 w25 := (((((u7.forget.then u8).then u9).then u10).then u11).then u12).then t1225
  refine c30 (hs6.old t625) s25 bL bL ⟨_, rfl, kp (Upd.refl _), ?_⟩
  refine brt (by simp) ?_
  have t825 : Upd [] [] w8 w25 := (((u9.forget.then u10).then u11).then u12).then t1225
  have hda : SeesB w25 (dU stE ⟨some ⟨b4, 0, none⟩, 10, 10⟩ stL) stU.data := by rw [← stU_back.2]; exact d8.old t825
  rw [stU_back.2]
  refine c23T (u := stU) (((s4.old u5).old u6).old t625) hda stU_fit.data fun w26 u26 => ⟨_, rfl, kp u26, brt rfl ?_⟩
  have O12_26 := (O12.old t1225).old u26
  rw [stT_back.2] at O14 D14 ⊢
  have t1426 : Upd [] [] w14 w26 := ((((((((u15.forget.then u16).then u17).then u18).then u19).then u20).then u21).then t2125).then u26)
  refine c28T (t := stT) (O14.old t1426) O12_26 stT_fit.opts (by decide) (D14.old t1426) (Sees.nil _ _ _ _) stT_fit.data fun w27 u27 => ⟨_, rfl, kp u27, brt rfl ?_⟩
  refine c28T (t := stT) ((hk21.old t2125).old (u26.then u27)) (O12_26.old u27) stT_fit.opts (by decide) (Sees.nil _ _ _ _) (Sees.nil _ _ _ _) stT_fit.data fun w28 u28 => ⟨_, rfl, kp u28, ?_⟩
  exact k w28 ((((v24.then u25).then u26).then u27).then u28)
end
end Go.Vc.S9
end

section
open Go Go.Vc
set_option linter.unusedVariables false
set_option linter.unusedSimpArgs false
set_option autoImplicit false
namespace Go.Vc
theorem cells_each {α : Type} {c : Cod α} {w : World} : ∀ {l : List α} {a : Addr}, (∀ i (hi : i < l.length), Cells w (some (a.add (i * c.sz))) (c.enc l[i])) → Cells w (some a) (c.cells l)
  | [], a, _ => by intro i hi; simp [Cod.cells] at hi
  | x :: r, a, h => by
    rw [Cod.cells_cons]
    refine Cells.mk ?_ (cells_each fun i hi => ?_)
    · have := h 0 (by simp)
      rw [Nat.zero_mul, add_zero] at this
      exact this
    · have h1 := h (i + 1) (by simp; omega)
      rw [c.len, add_add, show c.sz + i * c.sz = (i + 1) * c.sz by rw [Nat.add_mul, Nat.one_mul, Nat.add_comm]]
      exact h1
section
open Go.ChangeShapes Go.WideShapes Go.ChangeAt Go.RowKit
variable {H : Type} {X : Tab} {w : World}
/-- a slice of structs of plain values -/
theorem dp_slice {α : Type} {c : Cod α} {P : α → Prop} {m e : Nat} {x : SV} {d : DataW H} (hsz : (X.T e).size = c.sz)
    (hE : ∀ (m : Nat) (x : SV) (d : DataW H), Deep X w m (X.T e) x d → ∃ a : α, x.cells = c.enc a ∧ P a) (h : Deep X w m (.slice e) x d) :
    ∃ (s : Sl) (l : List α), x = .slice s ∧ Sees c w s l ∧ (∀ a ∈ l, P a) ∧ s.len ≤ s.cap ∧ (d = .nil ∧ l = [] ∨ ∃ els sp, d = .slice els sp ∧ els.length = l.length) := by
  cases m with
  | zero => exact h.elim
  | succ m =>
    simp only [Deep] at h
    rcases h with ⟨rfl, rfl⟩ | ⟨a, len, cap, vs, ds, rfl, rfl, hl, hm, hv, hd, h⟩
    · exact ⟨⟨none, 0, 0⟩, [], rfl, Sees.nil _ _ _ _, by simp, Nat.le_refl _, .inl ⟨rfl, rfl⟩⟩
    · have each : ∀ i (hi : i < cap), ∃ t : α, Cells w (some (a.add (i * c.sz))) (c.enc t) ∧ P t := by
        intro i hi
        obtain ⟨h1, h2, h3⟩ := h i _ _ (List.getElem?_eq_getElem (by omega)) (List.getElem?_eq_getElem (by omega))
        obtain ⟨t, g1, g2⟩ := hE _ _ _ h3
        rw [hsz, g1] at h2
        exact ⟨t, h2, g2⟩
      let F : Fin len → α := fun i => Classical.choose (each i (by omega))
      have hF : ∀ i : Fin len, Cells w (some (a.add (i * c.sz))) (c.enc (F i)) ∧ P (F i) := fun i => Classical.choose_spec (each i (by omega))
      refine ⟨⟨some a, len, cap⟩, List.ofFn F, rfl, ⟨by simp, cells_each fun i hi => ?_⟩, fun y hy => ?_, hl, .inr ⟨_, _, rfl, by simp; omega⟩⟩
      · rw [List.getElem_ofFn]
        exact (hF ⟨i, by simpa using hi⟩).1
      · obtain ⟨i, rfl⟩ := List.mem_ofFn.1 hy
        exact (hF i).2
end
end Go.Vc
end

section
open Go Go.Vc
set_option linter.unusedVariables false
set_option linter.unusedSimpArgs false
set_option autoImplicit false
namespace Go.Vc
section
open Go.ChangeShapes Go.WideShapes Go.ChangeAt Go.RowKit
variable {H : Type} {X : Tab} {w : World}
/-- a slice's datum and its length -/
def SlLen (d : DataW H) (n : Nat) : Prop := (d = .nil ∧ n = 0) ∨ ∃ els sp, d = .slice els sp ∧ els.length = n
theorem deep_bytes' {m t e : Nat} {x : SV} {d : DataW H} (hT : X.T t = .slice e) (hE : X.T e = .int .u8) (h : Deep X w m (X.T t) x d) :
    ∃ (s : Sl) (l : List Int), x = .slice s ∧ SeesB w s l ∧ Byt l ∧ s.len ≤ s.cap ∧ SlLen d l.length := by
  obtain ⟨s, l, h1, h2, h3, h4, h5, h6⟩ := deep_bytes hT hE h
  refine ⟨s, l, h1, h2, h3, h4, ?_⟩
  rcases h6 with ⟨rfl, rfl⟩ | ⟨els, sp, rfl, h7, _⟩
  · left; exact ⟨rfl, by have := h2.len; simpa using this.symm⟩
  · right; exact ⟨els, sp, rfl, h7⟩
/-- a slice of options -/
theorem dp_opts {m t e t2 e2 : Nat} {x : SV} {d : DataW H} (hT : X.T t = .slice e) (hE : X.T e = .struct false [.int .i64, .slice e2]) (hT2 : X.T t2 = .slice e2) (hE2 : X.T e2 = .int .u8) (h : Deep X w m (X.T t) x d) :
    ∃ (s : Sl) (l : List Opt) (os : List (Int × Sl)), x = .slice s ∧ Opts w s l os ∧ (∀ o ∈ l, Byt o.data) ∧ (∀ y ∈ os, y.2.len ≤ y.2.cap) ∧ s.len ≤ s.cap ∧
      (d = .nil ∧ l = [] ∨ ∃ els sp, d = .slice els sp ∧ els.length = l.length ∧ ∀ i (hi : i < l.length), ∃ dk dd, els[i]? = some (.agg [dk, dd]) ∧ SlLen dd l[i].data.length) := by
  rw [hT] at h
  cases m with
  | zero => exact h.elim
  | succ m =>
    simp only [Deep] at h
    rcases h with ⟨rfl, rfl⟩ | ⟨a, len, cap, vs, ds, rfl, rfl, hl, hm, hv, hd, h⟩
    · exact ⟨⟨none, 0, 0⟩, [], [], rfl, Opts.nil _ _ _, by simp, by simp, Nat.le_refl _, .inl ⟨rfl, rfl⟩⟩
    · have each : ∀ i (hi : i < cap), ∃ (o : Opt) (s : Sl), Cells w (some (a.add (i * 2))) (cOpt.enc (o.kind, s)) ∧ SeesB w s o.data ∧ Byt o.data ∧ s.len ≤ s.cap ∧ ∃ dk dd, ds[i]'(by omega) = .agg [dk, dd] ∧ SlLen dd o.data.length := by
        intro i hi
        obtain ⟨h1, h2, h3⟩ := h i _ _ (List.getElem?_eq_getElem (by omega)) (List.getElem?_eq_getElem (by omega))
        rw [hE] at h3 h2
        obtain ⟨fs, l, m', e1, e2', q⟩ := dp_struct h3
        obtain ⟨x1, _, d1, _, rfl, rfl, q1, q⟩ := all3_cons q
        obtain ⟨x2, _, d2, _, rfl, rfl, q2, q⟩ := all3_cons q
        obtain ⟨rfl, rfl⟩ := all3_nil q
        obtain ⟨k, rfl, _, _⟩ := dp_int q1
        rw [← hT2] at q2
        obtain ⟨s, l, rfl, g2, g3, g4, g5⟩ := deep_bytes' hT2 hE2 q2
        refine ⟨⟨k, l⟩, s, ?_, g2, g3, g4, d1, d2, e2', g5⟩
        rw [e1] at h2
        exact h2
      let F : Fin len → Opt := fun i => Classical.choose (each i (by omega))
      have hF0 : ∀ i : Fin len, ∃ (s : Sl), Cells w (some (a.add (i * 2))) (cOpt.enc ((F i).kind, s)) ∧ SeesB w s (F i).data ∧ Byt (F i).data ∧ s.len ≤ s.cap ∧ ∃ dk dd, ds[i.val]'(by omega) = .agg [dk, dd] ∧ SlLen dd (F i).data.length := fun i => Classical.choose_spec (each i (by omega))
      let G : Fin len → Sl := fun i => Classical.choose (hF0 i)
      have hG : ∀ i : Fin len, Cells w (some (a.add (i * 2))) (cOpt.enc ((F i).kind, G i)) ∧ SeesB w (G i) (F i).data ∧ Byt (F i).data ∧ (G i).len ≤ (G i).cap ∧ ∃ dk dd, ds[i.val]'(by omega) = .agg [dk, dd] ∧ SlLen dd (F i).data.length := fun i => Classical.choose_spec (hF0 i)
      refine ⟨⟨some a, len, cap⟩, List.ofFn F, List.ofFn fun i => ((F i).kind, G i), rfl, ⟨⟨by simp, cells_each fun i hi => ?_⟩, by simp, fun i hi => by simp, fun i hi => ?_⟩, fun y hy => ?_, fun y hy => ?_, hl, .inr ⟨_, _, rfl, by simp; omega, fun i hi => ?_⟩⟩
      · rw [List.getElem_ofFn]
        exact (hG ⟨i, by simpa using hi⟩).1
      · simp only [List.getElem_ofFn]
        exact (hG ⟨i, by simpa using hi⟩).2.1
      · obtain ⟨i, rfl⟩ := List.mem_ofFn.1 hy
        exact (hG i).2.2.1
      · obtain ⟨i, rfl⟩ := List.mem_ofFn.1 hy
        exact (hG i).2.2.2.1
      · simp only [List.getElem_ofFn]
        have hi' : i < len := by simpa using hi
        obtain ⟨dk, dd, e1, e2'⟩ := (hG ⟨i, hi'⟩).2.2.2.2
        refine ⟨dk, dd, ?_, e2'⟩
        rw [List.getElem?_take_of_lt hi', List.getElem?_eq_getElem (by omega)]
        exact congrArg some e1

/-! ### what weighs little is short -/
end
end Go.Vc
end

section
open Go Go.Vc Go.Vc.S9 Go.Proofs
set_option maxRecDepth 100000
set_option linter.unusedVariables false
namespace Go.Vc.S9
end Go.Vc.S9
end

section
open Go Go.Vc Go.Proofs Go.ChangeShapes Go.WideShapes Go.ChangeAt Go.RowKit
set_option linter.unusedVariables false
set_option linter.unusedSimpArgs false
set_option autoImplicit false
namespace Go.Vc.S9
/-- a datagram that was handed in -/
structure HandU (w : World) (u : UdV) (d : Sl) : Prop where
  data : SeesB w d u.data
  dlen : u.data.length ≤ 140737488351232
  fit : UFit u
  dcap : d.len ≤ d.cap
theorem HandU.old {w w1 : World} {u : UdV} {d : Sl} {n : List Nat} (h : HandU w u d) (up : Upd [] n w w1) : HandU w1 u d := ⟨h.data.old up, h.dlen, h.fit, h.dcap⟩
/-- a segment that was handed in -/
structure HandT (w : World) (t : TcV) (so sd : Sl) (os : List (Int × Sl)) : Prop where
  opts : Opts w so t.opts os
  few : t.opts.length ≤ 4398046511000
  small : ∀ o ∈ t.opts, o.data.length ≤ 140737488351232
  data : SeesB w sd t.data
  dlen : t.data.length ≤ 140737488351232
  fit : TFit t
  dcap : sd.len ≤ sd.cap
  ocap : so.len ≤ so.cap
  ocaps : ∀ y ∈ os, y.2.len ≤ y.2.cap
theorem HandT.old {w w1 : World} {t : TcV} {so sd : Sl} {os : List (Int × Sl)} {n : List Nat} (h : HandT w t so sd os) (u : Upd [] n w w1) : HandT w1 t so sd os := ⟨h.opts.old u, h.few, h.small, h.data.old u, h.dlen, h.fit, h.dcap, h.ocap, h.ocaps⟩
section
variable {H : Type} {w : World}
/-- a datum of options, and its list -/
def OptDat (d : DataW H) (l : List Opt) : Prop := d = .nil ∧ l = [] ∨ ∃ els sp, d = .slice els sp ∧ els.length = l.length ∧ ∀ i (hi : i < l.length), ∃ dk dd, els[i]? = some (.agg [dk, dd]) ∧ SlLen dd l[i].data.length
theorem deep_optsL {m : Nat} {x : SV} {d : DataW H} (h : Deep X w m (X.T 43) x d) : ∃ (s : Sl) (l : List Opt) (os : List (Int × Sl)), x = .slice s ∧ Opts w s l os ∧ (∀ o ∈ l, Byt o.data) ∧ (∀ y ∈ os, y.2.len ≤ y.2.cap) ∧ s.len ≤ s.cap ∧ OptDat d l :=
  dp_opts (t := 43) (e := 60) (t2 := 28) (e2 := 5) rfl rfl rfl rfl h
/-- an address that comes in -/
theorem deep_adr {m : Nat} {x : SV} {d : DataW H} (h : Deep X w m (X.T 27) x d) : ∃ (v : Int) (a : Nat → Int), x = adr v a ∧ (∀ i, i < 16 → 0 ≤ a i ∧ a i < 256) := by
  obtain ⟨v, a, rfl, _, r⟩ := dp_ip (show Deep X w m (.struct false [.int .i64, .arr .u8 16]) x d from h)
  exact ⟨v, a, rfl, r⟩
theorem deep_udp {m : Nat} {x : SV} {d : DataW H} (h : Deep X w m (X.T 30) x d) :
    ∃ (u : UdV) (sd : Sl) (a1 a2 a3 dd : DataW H), x = udSV u sd ∧ SeesB w sd u.data ∧ UFit u ∧ sd.len ≤ sd.cap ∧ d = .agg [a1, a2, a3, dd] ∧ SlLen dd u.data.length := by
  obtain ⟨fs, l, m', rfl, rfl, hh⟩ := dp_struct (b := false) (ts := [.int .i64, .int .i64, .bool, .slice 5]) (show Deep X w m (.struct false [.int .i64, .int .i64, .bool, .slice 5]) x d from h)
  obtain ⟨x1, _, d1, _, rfl, rfl, h1, hh⟩ := all3_cons hh
  obtain ⟨x2, _, d2, _, rfl, rfl, h2, hh⟩ := all3_cons hh
  obtain ⟨x3, _, d3, _, rfl, rfl, h3, hh⟩ := all3_cons hh
  obtain ⟨x4, _, d4, _, rfl, rfl, h4, hh⟩ := all3_cons hh
  obtain ⟨rfl, rfl⟩ := all3_nil hh
  obtain ⟨n1, rfl, _, i1⟩ := dp_int h1
  obtain ⟨n2, rfl, _, i2⟩ := dp_int h2
  obtain ⟨n3, rfl, _⟩ := dp_bool h3
  obtain ⟨sd, data, rfl, hd, hdb, hdc, hsl⟩ := deep_bytes' (X := X) (t := 28) (e := 5) rfl rfl (show Deep X w m' (X.T 28) x4 d4 from h4)
  exact ⟨⟨n1, n2, n3, data⟩, sd, d1, d2, d3, d4, rfl, hd, ⟨hdb⟩, hdc, rfl, hsl⟩
theorem deep_tcp {m : Nat} {x : SV} {d : DataW H} (h : Deep X w m (X.T 45) x d) :
    ∃ (t : TcV) (so sd : Sl) (os : List (Int × Sl)) (a1 a2 a3 a4 a5 a6 a7 do_ dd : DataW H), x = tcSV t so sd ∧ Opts w so t.opts os ∧ SeesB w sd t.data ∧ TFit t ∧ sd.len ≤ sd.cap ∧ so.len ≤ so.cap ∧ (∀ y ∈ os, y.2.len ≤ y.2.cap) ∧ d = .agg [a1, a2, a3, a4, a5, a6, a7, do_, dd] ∧ OptDat do_ t.opts ∧ SlLen dd t.data.length := by
  obtain ⟨fs, l, m', rfl, rfl, hh⟩ := dp_struct (b := false) (ts := [.int .i64, .int .i64, .int .i64, .int .i64, .int .i64, .int .i64, .int .i64, .slice 60, .slice 5]) (show Deep X w m (.struct false [.int .i64, .int .i64, .int .i64, .int .i64, .int .i64, .int .i64, .int .i64, .slice 60, .slice 5]) x d from h)
  obtain ⟨x1, _, d1, _, rfl, rfl, h1, hh⟩ := all3_cons hh
  obtain ⟨x2, _, d2, _, rfl, rfl, h2, hh⟩ := all3_cons hh
  obtain ⟨x3, _, d3, _, rfl, rfl, h3, hh⟩ := all3_cons hh
  obtain ⟨x4, _, d4, _, rfl, rfl, h4, hh⟩ := all3_cons hh
  obtain ⟨x5, _, d5, _, rfl, rfl, h5, hh⟩ := all3_cons hh
  obtain ⟨x6, _, d6, _, rfl, rfl, h6, hh⟩ := all3_cons hh
  obtain ⟨x7, _, d7, _, rfl, rfl, h7, hh⟩ := all3_cons hh
  obtain ⟨x8, _, d8, _, rfl, rfl, h8, hh⟩ := all3_cons hh
  obtain ⟨x9, _, d9, _, rfl, rfl, h9, hh⟩ := all3_cons hh
  obtain ⟨rfl, rfl⟩ := all3_nil hh
  obtain ⟨n1, rfl, _, i1⟩ := dp_int h1
  obtain ⟨n2, rfl, _, i2⟩ := dp_int h2
  obtain ⟨n3, rfl, _, i3⟩ := dp_int h3
  obtain ⟨n4, rfl, _, i4⟩ := dp_int h4
  obtain ⟨n5, rfl, _, i5⟩ := dp_int h5
  obtain ⟨n6, rfl, _, i6⟩ := dp_int h6
  obtain ⟨n7, rfl, _, i7⟩ := dp_int h7
  obtain ⟨so, lo, os, rfl, ho, hob, hoc, hsc, hdo⟩ := deep_optsL (show Deep X w m' (X.T 43) x8 d8 from h8)
  obtain ⟨sd, data, rfl, hd, hdb, hdc, hsl⟩ := deep_bytes' (X := X) (t := 28) (e := 5) rfl rfl (show Deep X w m' (X.T 28) x9 d9 from h9)
  exact ⟨⟨n1, n2, n3, n4, n5, n6, n7, lo, data⟩, so, sd, os, d1, d2, d3, d4, d5, d6, d7, d8, d9, rfl, ho, hd, ⟨hob, hdb⟩, hdc, hsc, hoc, rfl, hdo, hsl⟩
end
section
variable {e : Ends} {w : World} {R : SV → World → Prop} {u : UdV} {t : TcV} {so sd d : Sl} {os : List (Int × Sl)}
theorem c25H {v : Int} (h : HandU w u d) (k : ∀ w1, Upd [] [] w w1 → R (.int .i64 (udChk v u)) w1) : Ret Tryd.prog 25 [.int .i64 v, udSV u d] w R := c25 h.data.len k
theorem c26H (hg : Tabs w) (o : e.Ok) (h : HandT w t so sd os) (k : ∀ r w1, Upd [] [] w w1 → SeesB w1 r (tcSerL e t) → Own w.heap.size 1 w1 r → R (.tuple [.slice r, .int .i64 (tcPE e t)]) w1) : Ret Tryd.prog 26 [adr e.sv e.sa, adr e.dv e.da, tcSV t so sd] w R :=
  c26 hg o h.fit h.opts (by have := h.few; omega) (fun o ho => by have := h.small o ho; omega) h.data (by have := h.dlen; omega) k
theorem c29H (hg : Tabs w) (h : HandT w t so sd os) (k : ∀ w1, Upd [] [] w w1 → R (.int .i64 (tcChk t)) w1) : Ret Tryd.prog 29 [tcSV t so sd] w R :=
  c29 hg h.opts (by have := h.few; omega) (fun o ho => by have := h.small o ho; omega) h.data.len (by have := h.dlen; omega) k
theorem udSerL_byt (f : UFit u) : Byt (udSerL e u) := by
  unfold udSerL; split
  · exact udSer_byt f
  · intro x hx; simp at hx
theorem tcSerL_byt (f : TFit t) : Byt (tcSerL e t) := by
  unfold tcSerL; split
  · rename_i h; exact tcSer_byt (tcPE_ok h).2 f
  · intro x hx; simp at hx
theorem udSerL_len (e : Ends) (u : UdV) : (udSerL e u).length ≤ 65535 := by
  unfold udSerL; split
  · rename_i h
    have := (udChk_ok (udPE_ok h).2).2.2.2.2
    rw [udSer_len]; omega
  · simp
theorem tcSerL_len (e : Ends) (t : TcV) : (tcSerL e t).length ≤ 65535 := by
  unfold tcSerL; split
  · rename_i h
    have := (tcChk_ok (tcPE_ok h).2).2.2.2.2.2.2.2.2
    rw [tcSer_len]; omega
  · simp
end
end Go.Vc.S9
end

section
namespace Go.Vc
set_option linter.unusedVariables false
set_option linter.unusedSimpArgs false
set_option autoImplicit false
end Go.Vc
end

section
open Go Go.Vc Go.Proofs Go.ChangeShapes Go.WideShapes Go.ChangeAt Go.RowKit
set_option linter.unusedVariables false
set_option linter.unusedSimpArgs false
set_option autoImplicit false
namespace Go.Vc.S9
section
variable {e : Ends} {w : World} {R : SV → World → Prop}
end
section
variable {H : Type} {W : World}
end
end Go.Vc.S9
end

section
namespace Go.Vc
set_option linter.unusedVariables false
set_option linter.unusedSimpArgs false
set_option autoImplicit false
/-- cells of more kinds than one -/
inductive CV
  | sl (s : Sl) | int (n : Int) | ptr (p : Option Addr) | map (r : Option Nat)
def cCV : Cod CV := ⟨1, fun | .sl s => [s.val] | .int n => [.int .i64 n] | .ptr p => [.pointer p] | .map r => [.map r], by intro x; cases x <;> rfl, by intro x v hv; cases x <;> simp at hv <;> subst hv <;> rfl⟩
abbrev bxN (b n : Nat) : Sl := ⟨some ⟨b, 0, none⟩, n, n⟩
/-- a box of such cells -/
structure Bx (w : World) (b : Nat) (l : List CV) : Prop where
  sees : Sees cCV w (bxN b l.length) l
  own : Own 0 1 w (bxN b l.length)
section
variable {w w1 : World} {b : Nat} {l : List CV}
theorem Bx.mk' {e : Nat} {cs : List Value} (h : w.heap[b]? = some (.cells cs.toArray e (0, 0))) (hc : cs = cCV.cells l) : Bx w b l :=
  ⟨sees_row h l hc rfl, own_row h (Nat.zero_le _) (by rw [hc, cCV.cells_length]; simp [cCV]) (Nat.le_refl _)⟩
theorem Bx.upd {m n : List Nat} (h : Bx w b l) (u : Upd m n w w1) (hm : b ∉ m) : Bx w1 b l := ⟨h.sees.upd u (by simpa [Sl.blk] using hm), h.own.upd u (by simpa [Sl.blk] using hm)⟩
theorem Bx.old {n : List Nat} (h : Bx w b l) (u : Upd [] n w w1) : Bx w1 b l := h.upd u (by simp)
theorem Bx.lt (h : Bx w b l) : b < w.heap.size := (h.own.blk b (by simp [Sl.blk])).2
theorem Bx.at_ (i : Nat) : (bxN b l.length).at 1 i = (⟨b, 0, none⟩ : Addr).add i := by simp [Sl.at]
theorem Bx.get (h : Bx w b l) (i : Nat) (hi : i < l.length) : some (w.cell? ((⟨b, 0, none⟩ : Addr).add i)) = ((cCV.enc l[i]).head?).map some := by
  have h0 : 0 < (cCV.enc l[i]).length := by cases l[i] <;> exact Nat.one_pos
  have h1 := h.sees.elem hi 0 h0
  rw [add_zero] at h1
  have h2 : w.cell? ((⟨b, 0, none⟩ : Addr).add i) = some (cCV.enc l[i])[0] := by rw [← Bx.at_ (b := b) (l := l)]; exact h1
  rw [h2]
  exact (fun (x : CV) (h : 0 < (cCV.enc x).length) => (by cases x <;> rfl : some (some (cCV.enc x)[0]) = ((cCV.enc x).head?).map some)) _ h0
theorem Bx.sl (h : Bx w b l) (i : Nat) (s : Sl) (hi : l[i]? = some (.sl s)) : w.cell? ((⟨b, 0, none⟩ : Addr).add i) = some s.val := by
  obtain ⟨h1, h2⟩ := List.getElem?_eq_some_iff.1 hi
  have := h.get i h1
  rw [h2] at this
  exact Option.some.inj this
theorem Bx.int (h : Bx w b l) (i : Nat) (n : Int) (hi : l[i]? = some (.int n)) : w.cell? ((⟨b, 0, none⟩ : Addr).add i) = some (.int .i64 n) := by
  obtain ⟨h1, h2⟩ := List.getElem?_eq_some_iff.1 hi
  have := h.get i h1
  rw [h2] at this
  exact Option.some.inj this
theorem Bx.set {bs : List Nat} {vs : List Value} {y : CV} {F : World → Prop} (h : Bx w b l) (i : Nat) (hi : i < l.length) (hv : vs = cCV.enc y) (hbs : b ∉ bs) (k : ∀ w1, Bx w1 b (l.set i y) → Upd [b] [] w w1 → F w1) : Store w ((⟨b, 0, none⟩ : Addr).add i) vs bs F := by
  rw [← Bx.at_ (b := b) (l := l)]
  refine own_set (c := cCV) (x := y) h.sees h.own (by decide) hi hv (by simpa [Sl.blk] using hbs) fun w1 h1 o1 u1 => k w1 ⟨by simpa using h1, by rw [List.length_set]; exact o1⟩ (by simpa [Sl.blk] using u1)
end
/-- the marks of a desk -/
def dmk (i : Nat) : Int := wr .u8 (wr .i64 (203 - wr .i64 (5 * (i : Int))))
def dmks (K : Nat) : List Int := (List.range K).map dmk
theorem dmks_len (K : Nat) : (dmks K).length = K := by simp [dmks]
theorem dmks_bt {K i : Nat} (h : i < K) : bt (dmks K) (i : Int) = dmk i := by rw [bt_nat (by rw [dmks_len]; exact h)]; simp [dmks]
/-- a desk with bytes on it -/
structure Dsk (N : Nat) (w : World) (b : Nat) (l : List Int) (K : Nat) (room : Sl) : Prop where
  box : Bx w b [.sl room, .int l.length]
  sees : SeesB w room (l ++ (dmks K).drop l.length)
  le : l.length ≤ K
  own : Own N 1 w room
  off : b ∉ room.blk
theorem Dsk.upd {N : Nat} {w w1 : World} {b K : Nat} {l : List Int} {room : Sl} {m n : List Nat} (h : Dsk N w b l K room) (u : Upd m n w w1) (h1 : b ∉ m) (h2 : ∀ x ∈ room.blk, x ∉ m) : Dsk N w1 b l K room :=
  ⟨h.box.upd u h1, h.sees.upd u h2, h.le, h.own.upd u h2, h.off⟩
theorem Dsk.old {N : Nat} {w w1 : World} {b K : Nat} {l : List Int} {room : Sl} {n : List Nat} (h : Dsk N w b l K room) (u : Upd [] n w w1) : Dsk N w1 b l K room := h.upd u (by simp) (by simp)
theorem Dsk.len {N : Nat} {w : World} {b K : Nat} {l : List Int} {room : Sl} (h : Dsk N w b l K room) : room.len = K := by
  have := h.sees.len
  have := h.le
  simp [dmks_len] at *
  omega
/-- what was lent -/
theorem Dsk.lent {N : Nat} {w : World} {b K : Nat} {l : List Int} {room : Sl} (h : Dsk N w b l K room) {n : Nat} (hn : n = l.length) : SeesB w (room.sub 1 0 n room.cap) l := by
  subst hn
  have h1 := h.len
  have := h.le
  have := h.own.le
  have := h.sees.subB (lo := 0) (hi := l.length) (mx := room.cap) (by omega) (by simp) (by omega)
  simpa using this
end Go.Vc
end

section
open Go Go.Vc Go.Proofs
set_option linter.unusedVariables false
set_option linter.unusedSimpArgs false
set_option autoImplicit false
namespace Go.Vc.S9
theorem set_mid {M L : List Int} {t : Nat} (h : t < M.length) (h2 : L.length = M.length) : (M.take t ++ L.drop t).set t M[t] = M.take (t + 1) ++ L.drop (t + 1) := by
  rw [List.set_append_right _ _ (by simp; omega), List.drop_eq_getElem_cons (by omega : t < L.length), show t - (M.take t).length = 0 by simp; omega, List.set_cons_zero, take_snoc h, List.append_assoc]
  rfl
theorem bx_set0 {w : World} {b : Nat} {l : List CV} {bs : List Nat} {vs : List Value} {y : CV} {F : World → Prop} (h : Bx w b l) (hi : 0 < l.length) (hv : vs = cCV.enc y) (hbs : b ∉ bs) (k : ∀ w1, Bx w1 b (l.set 0 y) → Upd [b] [] w w1 → F w1) : Store w ⟨b, 0, none⟩ vs bs F := by
  have := h.set 0 hi hv hbs k
  rwa [add_zero] at this
variable {w : World} {R : SV → World → Prop}
theorem c82 {i : Int} (k : R (.int .u8 (wr .u8 (wr .i64 (203 - wr .i64 (5 * i))))) w) : Ret Tryd.prog 82 [.int .i64 i] w R := f82_of _ _ _ k
/-- does it lie there still? -/
theorem c87 {a b : Sl} {la lb : List Int} (ha : SeesB w a la) (hb : SeesB w b lb) (ba : Byt la) (bb : Byt lb) (k : R (.bool (decide (la = lb))) w) : Ret Tryd.prog 87 [.slice a, .slice b] w R := by
  refine f87_of _ _ _ _ ?_
  unfold vc87
  exact alike (R := fun x => R (.bool x) w) ha hb ba bb k
set_option maxRecDepth 20000 in
theorem c48T {N bd K : Nat} {b room : Sl} {l : List Int} (h : Dsk N w bd l K room) (hb : SeesB w b l) (hB : Byt l) (hK : K ≤ 281474976710656) (k : ∀ w1, Upd [] [] w w1 → R (.bool true) w1) : Ret Tryd.prog 48 [.ptr (some ⟨bd, 0, none⟩), .slice b] w R := by
  refine f48_of _ _ _ _ ?_
  unfold vc48
  intro J hJ
  have hbl := hb.len
  have hrl := h.len
  have hle := h.le
  have hcap := h.own.le
  refine ⟨_, h.box.int 1 _ rfl, bre' (fun hne => absurd (by rw [hbl]) hne) (fun _ => ⟨room, by have := h.box.sl 0 room rfl; rwa [add_zero] at this, _, h.box.int 1 _ rfl, need (by simp; omega) fun w1 u1 => ?_⟩)⟩
  rw [Int.toNat_natCast]
  refine c87 ((h.old u1).lent rfl) (hb.old u1) hB hB ⟨_, rfl, brf (by simp) ?_⟩
  (repeat refine And.intro rfl ?_)
  refine hJ _ ?_
  have h1 := h.old u1
  refine ⟨_, h1.box.int 1 _ rfl, ?_⟩
  refine ⟨fun i w' => Upd [] [] w1 w' ∧ ∃ t : Nat, i = t ∧ t ≤ K ∧ l.length ≤ t, fun i _ => (K - i).toNat, ⟨Upd.refl _, l.length, rfl, by omega, by omega⟩, ?_⟩
  rintro i w2 ⟨u2, t, rfl, ht, hlt0⟩
  have h2 := h1.old u2
  refine ⟨room, by have := h2.box.sl 0 room rfl; rwa [add_zero] at this, brd (fun hlt => ⟨room, by have := h2.box.sl 0 room rfl; rwa [add_zero] at this, ?_⟩) (fun hge => k _ (u1.then u2))⟩
  have hsl := h2.sees.len
  have ht2 : t < K := by omega
  have hbt : bt (l ++ (dmks K).drop l.length) (t : Int) = dmk t := by
    have := bt_app_r l ((dmks K).drop l.length) (t - l.length)
    rw [show l.length + (t - l.length) = t by omega] at this
    rw [this, bt_drop, show l.length + (t - l.length) = t by omega, dmks_bt ht2]
  refine needB h2.sees (by omega) (by omega) ⟨_, h2.sees.byte (by omega) (by omega), fun w3 u3 => c82 ⟨_, rfl, u3.forget, brf (by rw [hbt]; simp [dmk]) ?_⟩⟩
  (repeat refine And.intro rfl ?_)
  exact ⟨⟨u2.then u3, t + 1, wr_succ (by omega), by omega, by omega⟩, by rw [wr_succ (q := t) (by omega)]; (try dsimp only); omega⟩
end Go.Vc.S9
end

section
namespace Go.Vc
set_option linter.unusedVariables false
set_option linter.unusedSimpArgs false
set_option autoImplicit false
/-- a list of lists, each in an array of its own -/
structure LotC {α : Type} (c : Cod α) (N : Nat) (w : World) (L : Sl) (ls : List (List α)) (gs : List Sl) : Prop where
  row : Sees cSl w L gs
  len : gs.length = ls.length
  each : ∀ i (h : i < ls.length), Sees c w (gs[i]'(by rw [len]; exact h)) ls[i]
  own : Own N 1 w L
  owns : ∀ x ∈ gs, Own N c.sz w x
  dis : gs.Pairwise Apt
  off : ∀ x ∈ gs, Apt x L
section
variable {α : Type} {c : Cod α} {N : Nat} {w w1 : World} {L : Sl} {ls : List (List α)} {gs : List Sl}
theorem LotC.nil (c : Cod α) (N : Nat) (w : World) : LotC c N w ⟨none, 0, 0⟩ [] [] := ⟨Sees.nil _ _ _ _, rfl, by simp, Own.none _ _ _, by simp, by simp, by simp⟩
/-- all its blocks -/
def lotB (L : Sl) (gs : List Sl) : List Nat := L.blk ++ gs.flatMap Sl.blk
theorem lotB_mem {x : Nat} : x ∈ lotB L gs ↔ x ∈ L.blk ∨ ∃ g ∈ gs, x ∈ g.blk := by simp [lotB]
theorem LotC.upd {m n : List Nat} (h : LotC c N w L ls gs) (u : Upd m n w w1) (hm : ∀ x ∈ lotB L gs, x ∉ m) : LotC c N w1 L ls gs :=
  have a := fun x hx => hm x (lotB_mem.2 (.inl hx))
  have b := fun g (hg : g ∈ gs) x hx => hm x (lotB_mem.2 (.inr ⟨g, hg, hx⟩))
  ⟨h.row.upd u a, h.len, fun i hi => (h.each i hi).upd u (b _ (List.getElem_mem _)), h.own.upd u a, fun x hx => (h.owns x hx).upd u (b x hx), h.dis, h.off⟩
theorem LotC.old {n : List Nat} (h : LotC c N w L ls gs) (u : Upd [] n w w1) : LotC c N w1 L ls gs := h.upd u (by simp)
theorem LotC.lt (h : LotC c N w L ls gs) : ∀ x ∈ lotB L gs, N ≤ x ∧ x < w.heap.size := fun x hx => by
  rcases lotB_mem.1 hx with q | ⟨g, hg, q⟩
  · exact h.own.blk x q
  · exact (h.owns g hg).blk x q
/-- one list more -/
theorem LotC.app1 {b e e' k0 : Nat} {g : Sl} {l : List α} {F : Sl → World → Prop} {cs : List Value} (h : LotC c N w L ls gs) (hrow : w.heap[b]? = some (.cells cs.toArray e (0, 0))) (hcs : cs = cSl.cells [g]) (hk0 : k0 = 1) (hg : Sees c w g l) (og : Own N c.sz w g) (hd : ∀ x ∈ g.blk, x ∉ lotB L gs)
    (hNw : N ≤ w.heap.size) (hb : (gs.length + 1) * 24 ≤ 140737488355328)
    (k : ∀ r w1, LotC c N w1 r (ls ++ [l]) (gs ++ [g]) → Upd L.blk [] w w1 → (∀ x ∈ r.blk, x ∈ L.blk ∨ w.heap.size ≤ x) → F r w1) : Append e' 1 24 L ⟨some ⟨b, 0, none⟩, k0, k0⟩ [] w F := by
  subst hcs hk0
  refine append_own (c := cSl) (new := [g]) h.row h.own (sees_row hrow _ rfl rfl) hNw (by simp) (by decide) hb fun r w1 hr ho u hnew => ?_
  have hgl := h.len
  have dg : ∀ x ∈ gs, ∀ b ∈ x.blk, b ∉ L.blk := h.off
  have dn : ∀ x ∈ g.blk, x ∉ L.blk := fun x hx hm => hd x hx (lotB_mem.2 (.inl hm))
  refine k r w1 ⟨hr, by simp [hgl], fun i hi => ?_, ho, ?_, ?_, ?_⟩ u hnew
  · by_cases hi2 : i < ls.length
    · rw [List.getElem_append_left (by rw [hgl]; exact hi2)]
      have e : (ls ++ [l])[i] = ls[i] := List.getElem_append_left hi2
      rw [e]
      exact (h.each i hi2).upd u (dg _ (List.getElem_mem _))
    · have hil : i = ls.length := by simp at hi; omega
      subst hil
      have e : (ls ++ [l])[ls.length] = l := by simp
      rw [e]
      have e2 : (gs ++ [g])[ls.length]'(by simp [hgl]) = g := by simp [← hgl]
      rw [e2]
      exact hg.upd u dn
  · intro x hx
    rcases List.mem_append.1 hx with hx | hx
    · exact (h.owns x hx).upd u (dg x hx)
    · rw [List.mem_singleton] at hx; subst hx; exact og.upd u dn
  · rw [List.pairwise_append]
    refine ⟨h.dis, by simp, fun x hx y hy b hb hm => ?_⟩
    rw [List.mem_singleton] at hy; subst hy
    exact hd b hm (lotB_mem.2 (.inr ⟨x, hx, hb⟩))
  · intro x hx b hb hm
    rcases List.mem_append.1 hx with hx | hx
    · rcases hnew b hm with h1 | h1
      · exact dg x hx b hb h1
      · have := ((h.owns x hx).blk b hb).2; omega
    · rw [List.mem_singleton] at hx; subst hx
      rcases hnew b hm with h1 | h1
      · exact dn b hb h1
      · have := (og.blk b hb).2; omega
end
end Go.Vc
end

section
open Go Go.Vc Go.Proofs
set_option linter.unusedVariables false
set_option linter.unusedSimpArgs false
set_option autoImplicit false
namespace Go.Vc.S9
variable {w : World} {R : SV → World → Prop}
theorem c50 {i : Int} {n : Nat} (hn : 0 < n) (hn2 : n < 9223372036854775807) (hi : -9223372036854775808 ≤ i ∧ i ≤ 9223372036854775807) (k : ∀ t : Nat, t < n → R (.int .i64 (t : Int)) w) : Ret Tryd.prog 50 [.int .i64 i, .int .i64 (n : Int)] w R := by
  refine f50_of _ _ _ _ ?_
  unfold vc50
  have h1 := Int.tmod_lt_of_pos i (b := (n : Int)) (by omega)
  have h2 : -(n : Int) < Int.tmod i n := by
    have := Int.tmod_lt_of_pos (-i) (b := (n : Int)) (by omega)
    rw [Int.neg_tmod] at this
    omega
  refine needNe (by omega) (brd (fun h => ?_) (fun h => ?_))
  · rw [wr_i64 (by omega) (by omega)]
    have := k (Int.tmod i n + n).toNat (by omega)
    rwa [Int.toNat_of_nonneg (by omega)] at this
  · have := k (Int.tmod i n).toNat (by omega)
    rwa [Int.toNat_of_nonneg (by omega)] at this
/-- lists of options that were handed out, and copies of them -/
structure Lsts (N : Nat) (w : World) (bk : Nat) (L W : Sl) (ls : List (List (Int × Sl))) (gs hs : List Sl) : Prop where
  box : Bx w bk [.sl L, .sl W]
  A : LotC cOpt N w L ls gs
  B : LotC cOpt N w W ls hs
  apart : ∀ x ∈ lotB L gs, x ∉ lotB W hs
  offA : bk ∉ lotB L gs
  offB : bk ∉ lotB W hs
theorem Lsts.old {N bk n : Nat} {w w1 : World} {L W : Sl} {ls : List (List (Int × Sl))} {gs hs : List Sl} {nn : List Nat} (h : Lsts N w bk L W ls gs hs) (u : Upd [] nn w w1) : Lsts N w1 bk L W ls gs hs := ⟨h.box.old u, h.A.old u, h.B.old u, h.apart, h.offA, h.offB⟩
theorem c49 {N bk : Nat} {L W g : Sl} {ls : List (List (Int × Sl))} {gs hs : List Sl} {l : List (Int × Sl)} (h : Lsts N w bk L W ls gs hs) (hg : Sees cOpt w g l) (og : Own N 2 w g) (hd : ∀ x ∈ g.blk, x ∉ lotB L gs ∧ x ∉ lotB W hs ∧ x ≠ bk) (hN : N ≤ w.heap.size) (hl : l.length ≤ 1099511627776) (hn : ls.length ≤ 1099511627776)
    (k : ∀ L' W' c w1 ms, Upd ms [] w w1 → (∀ x ∈ ms, x = bk ∨ x ∈ L.blk ∨ x ∈ W.blk) → Lsts N w1 bk L' W' (ls ++ [l]) (gs ++ [g]) (hs ++ [c]) → (∀ x ∈ lotB L' (gs ++ [g]), x ∈ lotB L gs ∨ x ∈ g.blk ∨ w.heap.size ≤ x) → (∀ x ∈ lotB W' (hs ++ [c]), x ∈ lotB W hs ∨ w.heap.size ≤ x) → R (.tuple []) w1) : Ret Tryd.prog 49 [.ptr (some ⟨bk, 0, none⟩), .slice g] w R := by
  refine f49_of _ _ _ _ ?_
  unfold vc49
  have hal := h.A.len
  have hbl := h.B.len
  refine append_own (c := cOpt) (l := []) (Sees.nil _ _ _ _) (Own.none w.heap.size _ _) hg (Nat.le_refl _) (by simp) (by decide) (by simp; omega) fun c w1 hc oc u1 _ => ?_
  have v1 : Upd [] [] w w1 := by simpa [Sl.blk] using u1
  rw [List.nil_append] at hc
  dsimp only [deref]
  have y1 := v1.size
  have h1 := h.old (n := 0) v1
  refine ⟨L, by have := h1.box.sl 0 L rfl; rwa [add_zero] at this, fun b w2 u2 hr2 => ?_⟩
  have y2 := u2.size
  have h2 := h1.old (n := 0) u2
  have v2 := v1.then u2
  refine LotC.app1 h2.A hr2 rfl rfl (hg.old v2) (og.old v2) (fun x hx => (hd x hx).1) (by omega) (by omega) fun L' w3 hA3 u3 n3 => ?_
  have y3 := u3.size
  have aL : ∀ x ∈ L.blk, x ∈ lotB L gs := fun x hx => lotB_mem.2 (.inl hx)
  have aW : ∀ x ∈ W.blk, x ∈ lotB W hs := fun x hx => lotB_mem.2 (.inl hx)
  have hbk := h.box.lt
  have hB3 := h2.B.upd u3 (fun x hx hm => h.apart x (aL x hm) hx)
  have hx3 := h2.box.upd u3 (fun hm => h.offA (aL _ hm))
  have bc := oc.blk
  have hltA := h.A.lt
  have hltB := h.B.lt
  have hc3 := (hc.old u2).upd u3 (fun x hx hm => by have := bc x hx; have := hltA x (aL x hm); omega)
  have oc3 := (oc.old u2).upd u3 (fun x hx hm => by have := bc x hx; have := hltA x (aL x hm); omega)
  have newA : ∀ x ∈ lotB L' (gs ++ [g]), x ∈ lotB L gs ∨ x ∈ g.blk ∨ w2.heap.size ≤ x := fun x hx => by
    rcases lotB_mem.1 hx with q | ⟨y, hy, q⟩
    · rcases n3 x q with q2 | q2
      · exact .inl (aL x q2)
      · exact .inr (.inr q2)
    · rcases List.mem_append.1 hy with hy | hy
      · exact .inl (lotB_mem.2 (.inr ⟨y, hy, q⟩))
      · rw [List.mem_singleton] at hy; subst hy; exact .inr (.inl q)
  have gA : bk ∉ lotB L' (gs ++ [g]) := fun hm => by
    rcases newA bk hm with q | q | q
    · exact h.offA q
    · exact (hd bk q).2.2 rfl
    · omega
  refine bx_set0 (y := .sl L') hx3 (show 0 < 2 by decide) rfl (List.not_mem_nil) fun w4 hx4 u4 => ?_
  have y4 := u4.size
  have hA4 := hA3.upd u4 (fun x hx hm => by simp at hm; exact gA (hm ▸ hx))
  have hB4 := hB3.upd u4 (fun x hx hm => by simp at hm; exact h.offB (hm ▸ hx))
  have hc4 := hc3.upd u4 (fun x hx hm => by have := bc x hx; simp at hm; omega)
  have oc4 := oc3.upd u4 (fun x hx hm => by have := bc x hx; simp at hm; omega)
  refine ⟨W, hx4.sl 1 W rfl, fun b' w5 u5 hr5 => ?_⟩
  have y5 := u5.size
  refine LotC.app1 (hB4.old u5) hr5 rfl rfl (hc4.old u5) ((oc4.old u5).mono hN) (fun x hx hm => by have := bc x hx; have := hltB x hm; omega) (by omega) (by omega) fun W' w6 hB6 u6 n6 => ?_
  have newB : ∀ x ∈ lotB W' (hs ++ [c]), x ∈ lotB W hs ∨ (w.heap.size ≤ x ∧ x < w1.heap.size) ∨ w5.heap.size ≤ x := fun x hx => by
    rcases lotB_mem.1 hx with q | ⟨y, hy, q⟩
    · rcases n6 x q with q2 | q2
      · exact .inl (aW x q2)
      · exact .inr (.inr q2)
    · rcases List.mem_append.1 hy with hy | hy
      · exact .inl (lotB_mem.2 (.inr ⟨y, hy, q⟩))
      · rw [List.mem_singleton] at hy; subst hy; exact .inr (.inl (bc x q))
  have hA4lt := hA4.lt
  have hgl := og.blk
  have gB : bk ∉ lotB W' (hs ++ [c]) := fun hm => by
    rcases newB bk hm with q | q | q
    · exact h.offB q
    · omega
    · omega
  have nA : ∀ x ∈ lotB L' (gs ++ [g]), x ∉ W.blk := fun x hx hm => by
    rcases newA x hx with q | q | q
    · exact h.apart x q (aW x hm)
    · exact (hd x q).2.1 (aW x hm)
    · have := hltB x (aW x hm); omega
  have hA6 := (hA4.old u5).upd u6 nA
  refine (((hx4.old u5).upd u6 (fun hm => h.offB (aW _ hm)))).set 1 (y := .sl W') (show 1 < 2 by decide) rfl (List.not_mem_nil) fun w7 hx7 u7 => ?_
  refine k L' W' c w7 (bk :: (L.blk ++ W.blk)) ?_ (by simp) ⟨hx7, hA6.upd u7 (fun x hx hm => by simp at hm; exact gA (hm ▸ hx)), hB6.upd u7 (fun x hx hm => by simp at hm; exact gB (hm ▸ hx)), ?_, gA, gB⟩ ?_ ?_
  · exact (((((v2.wide (m' := bk :: (L.blk ++ W.blk)) (by simp)).step u3 (fun x hx => .inr (by simp [hx]))).step u4 (fun x hx => .inr (by simp at hx; simp [hx]))).step u5 (by simp)).step u6 (fun x hx => .inr (by simp [hx]))).step u7 (fun x hx => .inr (by simp at hx; simp [hx]))
  · intro x hx hm
    have hlt := hA4lt x hx
    rcases newA x hx with q | q | q
    · rcases newB x hm with r | r | r
      · exact h.apart x q r
      · have := hltA x q; omega
      · omega
    · rcases newB x hm with r | r | r
      · exact (hd x q).2.1 r
      · have := hgl x q; omega
      · omega
    · rcases newB x hm with r | r | r
      · have := hltB x r; omega
      · omega
      · omega
  · intro x hx
    rcases newA x hx with q | q | q
    · exact .inl q
    · exact .inr (.inl q)
    · exact .inr (.inr (by omega))
  · intro x hx
    rcases newB x hx with q | q | q
    · exact .inl q
    · exact .inr q.1
    · exact .inr (by omega)
theorem slC {w : World} {L : Sl} {gs : List Sl} (h : Sees cSl w L gs) (i : Nat) (hi : i < gs.length) : w.cell? (L.at 1 (Int.toNat (i : Int))) = some (gs[i]).val ∧ L.ptr.isSome = true := by
  rw [Int.toNat_natCast]
  have := h.elem (i := i) hi 0 (by simp [cSl])
  rw [add_zero] at this
  exact ⟨this, h.isSome (by decide) (by omega)⟩
theorem opC {w : World} {g : Sl} {os : List (Int × Sl)} (h : Sees cOpt w g os) (i : Nat) (hi : i < os.length) : w.cell? (g.at 2 (Int.toNat (i : Int))) = some (.int .i64 (os[i]).1) ∧ w.cell? ((g.at 2 (Int.toNat (i : Int))).add 1) = some (os[i]).2.val ∧ g.ptr.isSome = true := by
  rw [Int.toNat_natCast]
  have h1 := h.elem (i := i) hi 0 (by simp [cOpt])
  have h2 := h.elem (i := i) hi 1 (by simp [cOpt])
  rw [add_zero] at h1
  exact ⟨h1, h2, h.isSome (by decide) (by omega)⟩
/-- one mark alone -/
theorem c88T {g : Sl} {os : List (Int × Sl)} {m : Int} (h : Sees cOpt w g os) (hm : ∀ y ∈ os, y.1 = m ∧ y.2.len = 0) (hl : os.length < 9223372036854775807) (k : R (.bool true) w) : Ret Tryd.prog 88 [.slice g, .int .i64 m] w R := by
  refine f88_of _ _ _ _ ?_
  unfold vc88
  have hgl := h.len
  refine ⟨fun i w1 => w1 = w ∧ ∃ t : Nat, i = t ∧ t ≤ os.length, fun i _ => (os.length - i).toNat, ⟨rfl, 0, rfl, by omega⟩, ?_⟩
  rintro i w1 ⟨rfl, t, rfl, ht⟩
  refine brd (fun hlt => ?_) (fun hge => k)
  intro J hJ
  have ht2 : t < os.length := by omega
  obtain ⟨c1, c2, c3x⟩ := opC h t ht2
  obtain ⟨m1, m2⟩ := hm _ (List.getElem_mem ht2)
  refine needIx (by omega) (by omega) (h2 := c3x) ⟨_, c1, brf (by simp [m1]) (needIx (by omega) (by omega) (h2 := c3x) ⟨_, c2, brf (by simp [m2]) ?_⟩)⟩
  (repeat refine And.intro rfl ?_)
  refine hJ _ ?_
  (repeat refine And.intro rfl ?_)
  exact ⟨⟨rfl, t + 1, wr_succ (by omega), by omega⟩, by rw [wr_succ (q := t) (by omega)]; (try dsimp only); omega⟩
set_option maxRecDepth 10000 in
theorem c51T {N bk : Nat} {L W : Sl} {ls : List (List (Int × Sl))} {gs hs : List Sl} (h : Lsts N w bk L W ls gs hs) (hn : ls.length < 9223372036854775807) (hl : ∀ l ∈ ls, l.length < 9223372036854775807) (k : ∀ w1, Upd [] [] w w1 → R (.bool true) w1) : Ret Tryd.prog 51 [.ptr (some ⟨bk, 0, none⟩)] w R := by
  refine f51_of _ _ _ ?_
  unfold vc51
  have hal := h.A.len
  have hbl := h.B.len
  have hLl := h.A.row.len
  have hWl := h.B.row.len
  refine ⟨fun i w1 => Upd [] [] w w1 ∧ ∃ t : Nat, i = t ∧ t ≤ ls.length, fun i _ => (ls.length - i).toNat, ⟨Upd.refl _, 0, rfl, by omega⟩, ?_⟩
  rintro i w1 ⟨u1, t, rfl, ht⟩
  have h1 := h.old (n := 0) u1
  refine ⟨L, by have := h1.box.sl 0 L rfl; rwa [add_zero] at this, brd (fun hlt => ?_) (fun hge => k _ u1)⟩
  have ht2 : t < ls.length := by omega
  have hlt2 := hl _ (List.getElem_mem ht2)
  refine ⟨fun j w2 => Upd [] [] w1 w2 ∧ ∃ q : Nat, j = q ∧ q ≤ ls[t].length, fun j _ => (ls[t].length - j).toNat, ⟨Upd.refl _, 0, rfl, by omega⟩, ?_⟩
  rintro j w2 ⟨u2, q, rfl, hq⟩
  have h2 := h1.old (n := 0) u2
  have b0 : w2.cell? ⟨bk, 0, none⟩ = some L.val := by have := h2.box.sl 0 L rfl; rwa [add_zero] at this
  have b1 := h2.box.sl 1 W rfl
  obtain ⟨a1, a2⟩ := slC h2.A.row t (by omega)
  obtain ⟨a3, a4⟩ := slC h2.B.row t (by omega)
  have hg := h2.A.each t ht2
  have hh := h2.B.each t ht2
  have hgl := hg.len
  have hhl := hh.len
  refine ⟨L, b0, needIx (by omega) (by omega) (h2 := a2) ⟨_, a1, brd (fun hlt3 => ?_) (fun hge => ?_)⟩⟩
  · intro J hJ
    have hq2 : q < ls[t].length := by omega
    obtain ⟨c1, c2, c3x⟩ := opC hg q hq2
    obtain ⟨d1, d2, d3⟩ := opC hh q hq2
    refine ⟨L, b0, needIx (by omega) (by omega) (h2 := a2) ⟨_, a1, needIx (by omega) (by omega) (h2 := c3x) ⟨_, c1, W, b1, needIx (by omega) (by omega) (h2 := a4) ⟨_, a3, needIx (by omega) (by omega) (h2 := d3) ⟨_, d1, brf (by simp) ?_⟩⟩⟩⟩⟩
    refine ⟨L, b0, needIx (by omega) (by omega) (h2 := a2) ⟨_, a1, needIx (by omega) (by omega) (h2 := c3x) ⟨_, c2, W, b1, needIx (by omega) (by omega) (h2 := a4) ⟨_, a3, needIx (by omega) (by omega) (h2 := d3) ⟨_, d2, brf (by simp) fun w3 u3 => ?_⟩⟩⟩⟩⟩
    (repeat refine And.intro rfl ?_)
    refine hJ _ ?_
    (repeat refine And.intro rfl ?_)
    exact ⟨⟨u2.then u3, q + 1, wr_succ (by omega), by omega⟩, by rw [wr_succ (q := q) (by omega)]; (try dsimp only); omega⟩
  · (repeat refine And.intro rfl ?_)
    exact ⟨⟨u1.then u2, t + 1, wr_succ (by omega), by omega⟩, by rw [wr_succ (q := t) (by omega)]; (try dsimp only); omega⟩
end Go.Vc.S9
end

section
namespace Go.Vc
set_option linter.unusedVariables false
set_option linter.unusedSimpArgs false
set_option autoImplicit false
section
variable {α : Type} {c : Cod α} {N : Nat} {w w1 : World} {L : Sl} {ls : List (List α)} {gs : List Sl}
theorem LotC.index (h : LotC c N w L ls gs) : ∀ i j (hi : i < gs.length) (hj : j < gs.length), i ≠ j → ∀ b ∈ gs[i].blk, b ∉ gs[j].blk := by
  intro i j hi hj hne
  rcases Nat.lt_or_gt_of_ne hne with h1 | h1
  · exact List.pairwise_iff_getElem.1 h.dis i j hi hj h1
  · exact (List.pairwise_iff_getElem.1 h.dis j i hj hi h1 : Apt _ _).symm
/-- one element of one list is written -/
theorem LotC.set {i q : Nat} {y : α} {vs : List Value} {F : World → Prop} (h : LotC c N w L ls gs) (hz : 0 < c.sz) (hi : i < ls.length) (hi2 : i < gs.length) (hq : q < ls[i].length) (hv : vs = c.enc y) (k : ∀ w1, LotC c N w1 L (ls.set i (ls[i].set q y)) gs → Upd (gs[i]).blk [] w w1 → F w1) : Store w ((gs[i]).at c.sz q) vs [] F := by
  have hgl := h.len
  refine own_set (h.each i hi) (h.owns _ (List.getElem_mem _)) hz hq hv (by simp) fun w1 h1 o1 u1 => k w1 ⟨?_, by rw [List.length_set]; exact hgl, fun j hj => ?_, ?_, fun x hx => ?_, h.dis, h.off⟩ u1
  · exact h.row.upd u1 (fun x hx hm => h.off _ (List.getElem_mem hi2) x hm hx)
  · have hj' : j < ls.length := by simpa using hj
    by_cases e : j = i
    · subst e
      have e1 : (ls.set j (ls[j].set q y))[j]'hj = ls[j].set q y := by simp
      rw [e1]
      exact h1
    · have e1 : (ls.set i (ls[i].set q y))[j]'hj = ls[j] := by
        rw [List.getElem_set_ne (by omega)]
      rw [e1]
      exact (h.each j hj').upd u1 (h.index j i (by omega) hi2 e)
  · exact h.own.upd u1 (fun x hx hm => h.off _ (List.getElem_mem hi2) x hm hx)
  · obtain ⟨j, hj, rfl⟩ := List.getElem_of_mem hx
    by_cases e : j = i
    · subst e; exact o1
    · exact (h.owns _ (List.getElem_mem hj)).upd u1 (h.index j i hj hi2 e)
end
/-- one mark more behind a list that holds one mark alone; b: the list as it was handed out -/
theorem app_mkC {α : Type} {c : Cod α} {w : World} {N k e by_ : Nat} {b s x : Sl} {y : α} {F : Sl → World → Prop} (hb : Sees c w b (List.replicate b.len y)) (hs : Sees c w s (List.replicate k y)) (os : Own N c.sz w s) (hbk : b.len ≤ k) (hp : s.ptr = b.ptr ∨ ∀ z ∈ b.blk, z ∉ s.blk) (hx : Sees c w x [y]) (hN : N ≤ w.heap.size) (hbs : ∀ z ∈ b.blk, z < w.heap.size) (hpos : 0 < by_) (hl : (k + 1) * by_ ≤ 140737488355328)
    (kk : ∀ r w1, Sees c w1 r (List.replicate (k + 1) y) → Own N c.sz w1 r → Sees c w1 b (List.replicate b.len y) → (r.ptr = b.ptr ∨ ∀ z ∈ b.blk, z ∉ r.blk) → Upd s.blk [] w w1 → (∀ z ∈ r.blk, z ∈ s.blk ∨ w.heap.size ≤ z) → F r w1) : Append e c.sz by_ s x [] w F := by
  refine append_two hs os hx hN (by simp) hpos (by simpa using hl) (fun r w1 hr hor hrp u _ _ => ?_) (fun r w1 hr hor u => ?_)
  · rw [show List.replicate k y ++ [y] = List.replicate (k + 1) y by rw [List.replicate_succ']] at hr
    have hrb : r.blk = s.blk := blk_ptr hrp
    refine kk r w1 hr hor ?_ ?_ u (fun z hz => .inl (hrb ▸ hz))
    · rcases hp with q | q
      · refine hr.prefix_ (hrp.trans q) ?_ (by simp)
        rw [List.length_replicate, List.drop_replicate, List.replicate_append_replicate]
        congr 1; omega
      · exact hb.upd u q
    · rcases hp with q | q
      · exact .inl (hrp.trans q)
      · exact .inr (by rw [hrb]; exact q)
  · rw [show List.replicate k y ++ [y] = List.replicate (k + 1) y by rw [List.replicate_succ']] at hr
    exact kk r w1 hr (hor.mono hN) (hb.old u) (.inr fun z hz hm => by have := hbs z hz; have := (hor.blk z hm).1; omega) (u.wide (by simp)) (fun z hz => .inr (hor.blk z hz).1)
end Go.Vc
end

section
open Go Go.Vc Go.Proofs
set_option linter.unusedVariables false
set_option linter.unusedSimpArgs false
set_option autoImplicit false
namespace Go.Vc.S9
variable {w : World} {R : SV → World → Prop}
def mz (i : Nat) : Int × Sl := (wr .i64 (-1000 - (i : Int)), ⟨none, 0, 0⟩)
/-- the lists below t hold their marks alone -/
def Marked (ls : List (List (Int × Sl))) (t : Nat) : Prop := ∀ j (h : j < ls.length), j < t → ∀ y ∈ ls[j], y = mz j
set_option maxRecDepth 10000 in
theorem c52T {N bk : Nat} {L W : Sl} {ls : List (List (Int × Sl))} {gs hs : List Sl} (h : Lsts N w bk L W ls gs hs) (hn : ls.length ≤ 1099511627776) (hl : ∀ l ∈ ls, l.length ≤ 1099511627776) (hN : N ≤ w.heap.size) (k : ∀ w1 ms, Upd ms [] w w1 → (∀ x ∈ ms, x ∈ lotB L gs) → R (.bool true) w1) : Ret Tryd.prog 52 [.ptr (some ⟨bk, 0, none⟩)] w R := by
  refine f52_of _ _ _ ?_
  unfold vc52
  have hal := h.A.len
  have hLl := h.A.row.len
  refine c51T h (by omega) (fun l hl' => by have := hl l hl'; omega) fun w1 u1 => ⟨_, rfl, brf rfl ?_⟩
  have h1 := h.old (n := 0) u1
  have hglen : ∀ j (hj : j < gs.length), gs[j].len ≤ 1099511627776 := fun j hj => by
    have := (h.A.each j (by omega)).len
    rw [this]; exact hl _ (List.getElem_mem _)
  have inB : ∀ g ∈ gs, ∀ x ∈ g.blk, x ∈ lotB L gs := fun g hg x hx => lotB_mem.2 (.inr ⟨g, hg, hx⟩)
  refine ⟨fun i w' => Upd (lotB L gs) [] w1 w' ∧ ∃ (ls' : List (List (Int × Sl))) (t : Nat), LotC cOpt N w' L ls' gs ∧ i = t ∧ t ≤ gs.length ∧ Marked ls' t, fun i _ => (gs.length - i).toNat, ⟨(Upd.refl w1).wide (by simp), ls, 0, h1.A, rfl, by omega, fun j _ hj => by omega⟩, ?_⟩
  rintro i w2 ⟨u2, ls2, t, hA2, rfl, ht, hm2⟩
  have hx2 := h1.box.upd u2 h.offA
  have hal2 := hA2.len
  have b2 : w2.cell? ⟨bk, 0, none⟩ = some L.val := by have := hx2.sl 0 L rfl; rwa [add_zero] at this
  refine ⟨L, b2, brd (fun hlt => ?_) (fun hge => ?_)⟩
  · have ht2 : t < gs.length := by omega
    have hgt := hglen t ht2
    refine ⟨fun j w' => Upd (lotB L gs) [] w2 w' ∧ ∃ (ls' : List (List (Int × Sl))) (q : Nat), LotC cOpt N w' L ls' gs ∧ Marked ls' t ∧ j = q ∧ q ≤ gs[t].len ∧ ∀ (ht : t < ls'.length) p (hp : p < ls'[t].length), p < q → ls'[t][p] = mz t, fun j _ => (gs[t].len - j).toNat, ⟨(Upd.refl w2).wide (by simp), ls2, 0, hA2, hm2, rfl, by omega, fun _ p _ hp => by omega⟩, ?_⟩
    rintro j w3 ⟨u3, ls3, q, hA3, hm3, rfl, hq, hm3q⟩
    have hx3 := hx2.upd u3 h.offA
    have hal3 := hA3.len
    have b3 : w3.cell? ⟨bk, 0, none⟩ = some L.val := by have := hx3.sl 0 L rfl; rwa [add_zero] at this
    obtain ⟨a1, a2⟩ := slC hA3.row t ht2
    refine ⟨L, b3, needIx (by omega) (by omega) (h2 := a2) ⟨_, a1, brd (fun hlt3 => ?_) (fun hge => ?_)⟩⟩
    · have ht3 : t < ls3.length := by omega
      have hlt := (hA3.each t ht3).len
      have hq2 : q < ls3[t].length := by omega
      obtain ⟨_, _, c3x⟩ := opC (hA3.each t ht3) q hq2
      refine ⟨L, b3, needIx (by omega) (by omega) (h2 := a2) ⟨_, a1, needIx (by omega) (by omega) (h2 := c3x) ?_⟩⟩
      rw [Int.toNat_natCast]
      refine LotC.set (c := cOpt) (y := mz t) hA3 (by decide) ht3 ht2 hq2 rfl fun w4 hA4 u4 => ?_
      (repeat refine And.intro rfl ?_)
      refine ⟨⟨u3.step u4 (fun x hx => .inr (inB _ (List.getElem_mem ht2) x hx)), _, q + 1, hA4, ?_, wr_succ (by omega), by omega, ?_⟩, by rw [wr_succ (q := q) (by omega)]; (try dsimp only); omega⟩
      · intro j hj hjt y hy
        rw [List.getElem_set_ne (by omega)] at hy
        exact hm3 j _ hjt y hy
      · intro ht p hp hpq
        simp only [List.getElem_set_self] at hp ⊢
        by_cases e : p = q
        · subst e; simp
        · rw [List.getElem_set_ne (by omega)]
          exact hm3q ht3 p _ (by omega)
    · (repeat refine And.intro rfl ?_)
      have ht3 : t < ls3.length := by omega
      have hlt := (hA3.each t ht3).len
      refine ⟨⟨u2.step u3 (fun x hx => .inr hx), ls3, t + 1, hA3, wr_succ (by omega), by omega, fun j hj hjt y hy => ?_⟩, by rw [wr_succ (q := t) (by omega)]; (try dsimp only); omega⟩
      by_cases e : j < t
      · exact hm3 j hj e y hy
      · obtain rfl : j = t := by omega
        obtain ⟨p, hp, rfl⟩ := List.getElem_of_mem hy
        exact hm3q hj p hp (by omega)
  · have htl : t = gs.length := by omega
    subst htl
    (repeat refine And.intro rfl ?_)
    have hG : ∀ j (hj : j < gs.length), Sees cOpt w2 gs[j] (List.replicate gs[j].len (mz j)) := fun j hj => by
      have h3 := hA2.each j (by omega)
      rw [h3.len, ← List.eq_replicate_iff.2 ⟨rfl, hm2 j (by omega) hj⟩]
      exact h3
    have y1 := u1.size
    have y2 := u2.size
    have gsB : ∀ j (hj : j < gs.length), ∀ x ∈ gs[j].blk, N ≤ x ∧ x < w2.heap.size := fun j hj x hx => (hA2.owns _ (List.getElem_mem hj)).blk x hx
    have hLd : ∀ x ∈ L.blk, x ∉ gs.flatMap Sl.blk := fun x hx hm => by
      obtain ⟨g, hg, hx2⟩ := List.mem_flatMap.1 hm
      exact hA2.off g hg x hx2 hx
    have hbd : bk ∉ gs.flatMap Sl.blk := fun hm => h.offA (List.mem_append_right _ hm)
    have inF : ∀ j (hj : j < gs.length), ∀ x ∈ gs[j].blk, x ∈ gs.flatMap Sl.blk := fun j hj x hx => List.mem_flatMap.2 ⟨_, List.getElem_mem hj, hx⟩
    refine ⟨fun more i w' => Upd (gs.flatMap Sl.blk) [] w2 w' ∧ Own w2.heap.size 1 w' more ∧ ∃ (mg : List Sl) (t : Nat), i = t ∧ t ≤ gs.length ∧ mg.length = t ∧ Sees cSl w' more mg ∧ (∀ j (hj : j < gs.length), Sees cOpt w' gs[j] (List.replicate gs[j].len (mz j))) ∧ (∀ j (hj : j < gs.length), t ≤ j → Own N 2 w' gs[j]) ∧ (∀ j (hj : j < mg.length), ∃ n : Nat, n ≤ 4398046511104 ∧ Sees cOpt w' mg[j] (List.replicate n (mz j))) ∧ (∀ j (hj : j < mg.length) (hj2 : j < gs.length), ∀ x ∈ mg[j].blk, (x ∈ gs[j].blk ∨ w2.heap.size ≤ x) ∧ x < w'.heap.size ∧ x ∉ more.blk), fun _ i _ => (gs.length - i).toNat,
      ⟨(Upd.refl w2).wide (by simp), Own.none _ _ _, [], 0, rfl, by omega, rfl, Sees.nil _ _ _ _, hG, fun j hj _ => hA2.owns _ (List.getElem_mem hj), by simp, by simp⟩, ?_⟩
    rintro more i w3 ⟨u3, oM, mg, t, rfl, ht, hmg, hM, hG3, hO3, hS3, hB3⟩
    have hx3 := hx2.upd u3 hbd
    have y3 := u3.size
    have hL3 := hA2.row.upd u3 hLd
    have b3 : w3.cell? ⟨bk, 0, none⟩ = some L.val := by have := hx3.sl 0 L rfl; rwa [add_zero] at this
    refine ⟨L, b3, brd (fun hlt => ?_) (fun hge => ?_)⟩
    · have ht2 : t < gs.length := by omega
      have hgt := hglen t ht2
      obtain ⟨a1, a2⟩ := slC hL3 t ht2
      refine ⟨L, b3, needIx (by omega) (by omega) (h2 := a2) ⟨_, a1, ?_⟩⟩
      have e9 : wr .i64 (wr .i64 (2 * (gs[t].len : Int)) + 9) = ((2 * gs[t].len + 9 : Nat) : Int) := by rw [wr_i64 (x := 2 * (gs[t].len : Int)) (by omega) (by omega), wr_i64 (by omega) (by omega)]; omega
      refine ⟨fun s4 w' => Upd gs[t].blk [] w3 w' ∧ Own N 2 w' s4 ∧ ∃ k : Nat, gs[t].len ≤ k ∧ k ≤ 2 * gs[t].len + 9 ∧ Sees cOpt w' s4 (List.replicate k (mz t)) ∧ Sees cOpt w' gs[t] (List.replicate gs[t].len (mz t)) ∧ (s4.ptr = gs[t].ptr ∨ ∀ z ∈ gs[t].blk, z ∉ s4.blk) ∧ (∀ z ∈ s4.blk, z ∈ gs[t].blk ∨ w3.heap.size ≤ z), fun s4 _ => 2 * gs[t].len + 9 - s4.len,
        ⟨(Upd.refl w3).wide (by simp), hO3 t ht2 (Nat.le_refl _), gs[t].len, Nat.le_refl _, by omega, hG3 t ht2, hG3 t ht2, .inl rfl, fun z hz => .inl hz⟩, ?_⟩
      rintro s4 w4 ⟨u4, o4, k4, hk1, hk2, hs4, hg4, hp4, hb4⟩
      have hsl := hs4.len
      rw [List.length_replicate] at hsl
      have y4 := u4.size
      rw [e9]
      refine brd (fun hlt4 => ?_) (fun hge4 => ?_)
      · intro b w5 u5 hr5
        have y5 := u5.size
        refine app_mkC (b := gs[t]) (y := mz t) (hg4.old u5) (hs4.old u5) (o4.old u5) hk1 hp4 (optRow hr5 rfl rfl) (by omega) (fun z hz => by have := gsB t ht2 z hz; omega) (by decide) (by omega) fun r w6 hr6 o6 hg6 hp6 u6 hn6 => ?_
        have hrl := hr6.len
        rw [List.length_replicate] at hrl
        refine ⟨⟨(u4.step u5 (by simp)).step u6 (fun x hx => by rcases hb4 x hx with q | q; exact .inr q; exact .inl q), o6, k4 + 1, by omega, by omega, hr6, hg6, hp6, fun z hz => ?_⟩, by (try dsimp only); omega⟩
        rcases hn6 z hz with q | q
        · exact hb4 z q
        · exact .inr (by omega)
      · intro b w5 u5 hr5
        have y5 := u5.size
        have t35 := u4.step u5 (by simp)
        have mB := oM.blk
        have dM : ∀ x ∈ more.blk, x ∉ gs[t].blk := fun x hx hm => by have := mB x hx; have := gsB t ht2 x hm; omega
        have dG : ∀ j (hj : j < gs.length), j ≠ t → ∀ x ∈ gs[j].blk, x ∉ gs[t].blk := fun j hj hne => hA2.index j t hj ht2 hne
        refine append_own (c := cSl) (new := [s4]) (hM.upd t35 dM) (oM.upd t35 dM) (sees_row hr5 [s4] rfl rfl) (by omega) (by simp) (by decide) (by simp; omega) fun more' w6 hM6 oM6 u6 hn6 => ?_
        have y6 := u6.size
        have dm : ∀ j (hj : j < gs.length), ∀ x ∈ gs[j].blk, x ∉ more.blk := fun j hj x hx hm => by have := mB x hm; have := gsB j hj x hx; omega
        have s4B := o4.blk
        have s4d : ∀ x ∈ s4.blk, x ∉ more.blk := fun x hx hm => by
          rcases hb4 x hx with q | q
          · exact dm t ht2 x q hm
          · have := mB x hm; omega
        have mgd : ∀ j (hj : j < mg.length), ∀ x ∈ mg[j].blk, x ∉ gs[t].blk := fun j hj x hx hm => by
          obtain ⟨q, _, _⟩ := hB3 j hj (by omega) x hx
          rcases q with q | q
          · exact dG j (by omega) (by omega) x q hm
          · have := gsB t ht2 x hm; omega
        refine ⟨⟨(u3.step t35 (fun x hx => .inr (inF t ht2 x hx))).step u6 (fun x hx => .inl (mB x hx).1), oM6, mg ++ [s4], t + 1, wr_succ (by omega), by omega, by simp [hmg], hM6, fun j hj => ?_, fun j hj htj => ?_, fun j hj => ?_, fun j hj hj2 x hx => ?_⟩, by rw [wr_succ (q := t) (by omega)]; (try dsimp only); omega⟩
        · by_cases e : j = t
          · subst e; exact (hg4.old u5).upd u6 (dm j hj)
          · exact ((hG3 j hj).upd t35 (dG j hj e)).upd u6 (dm j hj)
        · exact ((hO3 j hj (by omega)).upd t35 (dG j hj (by omega))).upd u6 (dm j hj)
        · by_cases e : j < mg.length
          · obtain ⟨n, n1, n2⟩ := hS3 j e
            refine ⟨n, n1, ?_⟩
            rw [List.getElem_append_left e]
            exact (n2.upd t35 (mgd j e)).upd u6 (fun x hx => (hB3 j e (by omega) x hx).2.2)
          · have hj' : j = mg.length := by simp at hj; omega
            subst hj'
            have e1 : (mg ++ [s4])[mg.length] = s4 := by simp
            rw [e1]
            subst hmg
            exact ⟨k4, by omega, (hs4.old u5).upd u6 s4d⟩
        · have hnew : ∀ x, (x < w5.heap.size ∧ x ∉ more.blk) → x ∉ more'.blk := fun x hx hm => by
            rcases hn6 x hm with q | q
            · exact hx.2 q
            · omega
          by_cases e : j < mg.length
          · rw [List.getElem_append_left e] at hx
            obtain ⟨q1, q2, q3⟩ := hB3 j e hj2 x hx
            exact ⟨q1, by omega, hnew x ⟨by omega, q3⟩⟩
          · have hj' : j = mg.length := by simp at hj; omega
            subst hj'
            have e1 : (mg ++ [s4])[mg.length] = s4 := by simp
            rw [e1] at hx
            have := s4B x hx
            refine ⟨?_, by omega, hnew x ⟨by omega, s4d x hx⟩⟩
            rcases hb4 x hx with q | q
            · left; subst hmg; exact q
            · right; omega
    · have htl : t = gs.length := by omega
      subst htl
      refine ⟨fun i w' => w' = w3 ∧ ∃ t : Nat, i = t ∧ t ≤ gs.length, fun i _ => (gs.length - i).toNat, ⟨rfl, 0, rfl, by omega⟩, ?_⟩
      rintro i w4 ⟨rfl, t, rfl, ht⟩
      refine ⟨L, b3, brd (fun hlt => ?_) (fun hge => ?_)⟩
      · intro J hJ
        have ht2 : t < gs.length := by omega
        have hgt := hglen t ht2
        have ht3 : t < mg.length := by omega
        obtain ⟨a1, a2⟩ := slC hL3 t ht2
        obtain ⟨a3, a4⟩ := slC hM t ht3
        have hMl := hM.len
        obtain ⟨n, n1, n2⟩ := hS3 t ht3
        refine ⟨L, b3, needIx (by omega) (by omega) (h2 := a2) ⟨_, a1, ?_⟩⟩
        refine c88T (hG3 t ht2) (fun y hy => by rw [List.eq_of_mem_replicate hy]; exact ⟨rfl, rfl⟩) (by rw [List.length_replicate]; omega) ⟨_, rfl, brf rfl (needIx (by omega) (by omega) (h2 := a4) ⟨_, a3, ?_⟩)⟩
        refine c88T n2 (fun y hy => by rw [List.eq_of_mem_replicate hy]; exact ⟨rfl, rfl⟩) (by rw [List.length_replicate]; omega) ⟨_, rfl, brf rfl ?_⟩
        (repeat refine And.intro rfl ?_)
        refine hJ _ ?_
        (repeat refine And.intro rfl ?_)
        exact ⟨⟨rfl, t + 1, wr_succ (by omega), by omega⟩, by rw [wr_succ (q := t) (by omega)]; (try dsimp only); omega⟩
      · refine k _ (lotB L gs) (((u1.wide (m' := lotB L gs) (by simp)).step u2 (fun x hx => .inr hx)).step u3 (fun x hx => .inr (List.mem_append_right _ hx))) (fun x hx => hx)
end Go.Vc.S9
end

section
open Go Go.Vc Go.Proofs
set_option linter.unusedVariables false
set_option linter.unusedSimpArgs false
set_option autoImplicit false
namespace Go.Vc.S9
variable {w : World} {R : SV → World → Prop}
/-- lists of bytes that were handed out, and copies of them -/
structure Bok (N : Nat) (w : World) (bk : Nat) (L W : Sl) (ls : List (List Int)) (gs hs : List Sl) : Prop where
  box : Bx w bk [.sl L, .sl W]
  A : LotC cU8 N w L ls gs
  B : LotC cU8 N w W ls hs
  apart : ∀ x ∈ lotB L gs, x ∉ lotB W hs
  offA : bk ∉ lotB L gs
  offB : bk ∉ lotB W hs
theorem Bok.old {N bk n : Nat} {w w1 : World} {L W : Sl} {ls : List (List Int)} {gs hs : List Sl} {nn : List Nat} (h : Bok N w bk L W ls gs hs) (u : Upd [] nn w w1) : Bok N w1 bk L W ls gs hs := ⟨h.box.old u, h.A.old u, h.B.old u, h.apart, h.offA, h.offB⟩
theorem c61 {N bk : Nat} {L W g : Sl} {ls : List (List Int)} {gs hs : List Sl} {l : List Int} (h : Bok N w bk L W ls gs hs) (hg : Sees cU8 w g l) (og : Own N 1 w g) (hd : ∀ x ∈ g.blk, x ∉ lotB L gs ∧ x ∉ lotB W hs ∧ x ≠ bk) (hN : N ≤ w.heap.size) (hl : l.length ≤ 549755813888) (hn : ls.length ≤ 549755813888)
    (k : ∀ L' W' c w1 ms, Upd ms [] w w1 → (∀ x ∈ ms, x = bk ∨ x ∈ L.blk ∨ x ∈ W.blk) → Bok N w1 bk L' W' (ls ++ [l]) (gs ++ [g]) (hs ++ [c]) → (∀ x ∈ lotB L' (gs ++ [g]), x ∈ lotB L gs ∨ x ∈ g.blk ∨ w.heap.size ≤ x) → (∀ x ∈ lotB W' (hs ++ [c]), x ∈ lotB W hs ∨ w.heap.size ≤ x) → R (.tuple []) w1) : Ret Tryd.prog 61 [.ptr (some ⟨bk, 0, none⟩), .slice g] w R := by
  refine f61_of _ _ _ _ ?_
  unfold vc61
  have hal := h.A.len
  have hbl := h.B.len
  refine append_own (c := cU8) (l := []) (Sees.nil _ _ _ _) (Own.none w.heap.size _ _) hg (Nat.le_refl _) (by simp) (by decide) (by simp; omega) fun c w1 hc oc u1 _ => ?_
  have v1 : Upd [] [] w w1 := by simpa [Sl.blk] using u1
  rw [List.nil_append] at hc
  dsimp only [deref]
  have y1 := v1.size
  have h1 := h.old (n := 0) v1
  refine ⟨L, by have := h1.box.sl 0 L rfl; rwa [add_zero] at this, fun b w2 u2 hr2 => ?_⟩
  have y2 := u2.size
  have h2 := h1.old (n := 0) u2
  have v2 := v1.then u2
  refine LotC.app1 h2.A hr2 rfl rfl (hg.old v2) (og.old v2) (fun x hx => (hd x hx).1) (by omega) (by omega) fun L' w3 hA3 u3 n3 => ?_
  have y3 := u3.size
  have aL : ∀ x ∈ L.blk, x ∈ lotB L gs := fun x hx => lotB_mem.2 (.inl hx)
  have aW : ∀ x ∈ W.blk, x ∈ lotB W hs := fun x hx => lotB_mem.2 (.inl hx)
  have hbk := h.box.lt
  have hB3 := h2.B.upd u3 (fun x hx hm => h.apart x (aL x hm) hx)
  have hx3 := h2.box.upd u3 (fun hm => h.offA (aL _ hm))
  have bc := oc.blk
  have hltA := h.A.lt
  have hltB := h.B.lt
  have hc3 := (hc.old u2).upd u3 (fun x hx hm => by have := bc x hx; have := hltA x (aL x hm); omega)
  have oc3 := (oc.old u2).upd u3 (fun x hx hm => by have := bc x hx; have := hltA x (aL x hm); omega)
  have newA : ∀ x ∈ lotB L' (gs ++ [g]), x ∈ lotB L gs ∨ x ∈ g.blk ∨ w2.heap.size ≤ x := fun x hx => by
    rcases lotB_mem.1 hx with q | ⟨y, hy, q⟩
    · rcases n3 x q with q2 | q2
      · exact .inl (aL x q2)
      · exact .inr (.inr q2)
    · rcases List.mem_append.1 hy with hy | hy
      · exact .inl (lotB_mem.2 (.inr ⟨y, hy, q⟩))
      · rw [List.mem_singleton] at hy; subst hy; exact .inr (.inl q)
  have gA : bk ∉ lotB L' (gs ++ [g]) := fun hm => by
    rcases newA bk hm with q | q | q
    · exact h.offA q
    · exact (hd bk q).2.2 rfl
    · omega
  refine bx_set0 (y := .sl L') hx3 (show 0 < 2 by decide) rfl (List.not_mem_nil) fun w4 hx4 u4 => ?_
  have y4 := u4.size
  have hA4 := hA3.upd u4 (fun x hx hm => by simp at hm; exact gA (hm ▸ hx))
  have hB4 := hB3.upd u4 (fun x hx hm => by simp at hm; exact h.offB (hm ▸ hx))
  have hc4 := hc3.upd u4 (fun x hx hm => by have := bc x hx; simp at hm; omega)
  have oc4 := oc3.upd u4 (fun x hx hm => by have := bc x hx; simp at hm; omega)
  refine ⟨W, hx4.sl 1 W rfl, fun b' w5 u5 hr5 => ?_⟩
  have y5 := u5.size
  refine LotC.app1 (hB4.old u5) hr5 rfl rfl (hc4.old u5) ((oc4.old u5).mono hN) (fun x hx hm => by have := bc x hx; have := hltB x hm; omega) (by omega) (by omega) fun W' w6 hB6 u6 n6 => ?_
  have newB : ∀ x ∈ lotB W' (hs ++ [c]), x ∈ lotB W hs ∨ (w.heap.size ≤ x ∧ x < w1.heap.size) ∨ w5.heap.size ≤ x := fun x hx => by
    rcases lotB_mem.1 hx with q | ⟨y, hy, q⟩
    · rcases n6 x q with q2 | q2
      · exact .inl (aW x q2)
      · exact .inr (.inr q2)
    · rcases List.mem_append.1 hy with hy | hy
      · exact .inl (lotB_mem.2 (.inr ⟨y, hy, q⟩))
      · rw [List.mem_singleton] at hy; subst hy; exact .inr (.inl (bc x q))
  have hA4lt := hA4.lt
  have hgl := og.blk
  have gB : bk ∉ lotB W' (hs ++ [c]) := fun hm => by
    rcases newB bk hm with q | q | q
    · exact h.offB q
    · omega
    · omega
  have nA : ∀ x ∈ lotB L' (gs ++ [g]), x ∉ W.blk := fun x hx hm => by
    rcases newA x hx with q | q | q
    · exact h.apart x q (aW x hm)
    · exact (hd x q).2.1 (aW x hm)
    · have := hltB x (aW x hm); omega
  have hA6 := (hA4.old u5).upd u6 nA
  refine (((hx4.old u5).upd u6 (fun hm => h.offB (aW _ hm)))).set 1 (y := .sl W') (show 1 < 2 by decide) rfl (List.not_mem_nil) fun w7 hx7 u7 => ?_
  refine k L' W' c w7 (bk :: (L.blk ++ W.blk)) ?_ (by simp) ⟨hx7, hA6.upd u7 (fun x hx hm => by simp at hm; exact gA (hm ▸ hx)), hB6.upd u7 (fun x hx hm => by simp at hm; exact gB (hm ▸ hx)), ?_, gA, gB⟩ ?_ ?_
  · exact (((((v2.wide (m' := bk :: (L.blk ++ W.blk)) (by simp)).step u3 (fun x hx => .inr (by simp [hx]))).step u4 (fun x hx => .inr (by simp at hx; simp [hx]))).step u5 (by simp)).step u6 (fun x hx => .inr (by simp [hx]))).step u7 (fun x hx => .inr (by simp at hx; simp [hx]))
  · intro x hx hm
    have hlt := hA4lt x hx
    rcases newA x hx with q | q | q
    · rcases newB x hm with r | r | r
      · exact h.apart x q r
      · have := hltA x q; omega
      · omega
    · rcases newB x hm with r | r | r
      · exact (hd x q).2.1 r
      · have := hgl x q; omega
      · omega
    · rcases newB x hm with r | r | r
      · have := hltB x r; omega
      · omega
      · omega
  · intro x hx
    rcases newA x hx with q | q | q
    · exact .inl q
    · exact .inr (.inl q)
    · exact .inr (.inr (by omega))
  · intro x hx
    rcases newB x hx with q | q | q
    · exact .inl q
    · exact .inr q.1
    · exact .inr (by omega)
theorem byC {w : World} {g : Sl} {os : List Int} (h : SeesB w g os) (i : Nat) (hi : i < os.length) : w.cell? (g.at 1 (Int.toNat (i : Int))) = some (.int .u8 os[i]) ∧ g.ptr.isSome = true := by
  rw [Int.toNat_natCast]
  have h1 := h.elem (i := i) hi 0 (by simp [cU8])
  rw [add_zero] at h1
  exact ⟨h1, h.isSome (by decide) (by omega)⟩
/-- one mark alone -/
theorem c94T {g : Sl} {os : List Int} {m : Int} (h : SeesB w g os) (hm : ∀ y ∈ os, y = m) (hl : os.length < 9223372036854775807) (k : R (.bool true) w) : Ret Tryd.prog 94 [.slice g, .int .u8 m] w R := by
  refine f94_of _ _ _ _ ?_
  unfold vc94
  have hgl := h.len
  refine ⟨fun i w1 => w1 = w ∧ ∃ t : Nat, i = t ∧ t ≤ os.length, fun i _ => (os.length - i).toNat, ⟨rfl, 0, rfl, by omega⟩, ?_⟩
  rintro i w1 ⟨rfl, t, rfl, ht⟩
  refine brd (fun hlt => ?_) (fun hge => k)
  have ht2 : t < os.length := by omega
  obtain ⟨c1, cN⟩ := byC h t ht2
  have m1 := hm _ (List.getElem_mem ht2)
  refine needIx (by omega) (by omega) (h2 := cN) ⟨_, c1, brf (by simp [m1]) ?_⟩
  exact ⟨⟨rfl, t + 1, wr_succ (by omega), by omega⟩, by rw [wr_succ (q := t) (by omega)]; (try dsimp only); omega⟩
theorem c63T {N bk : Nat} {L W : Sl} {ls : List (List Int)} {gs hs : List Sl} (h : Bok N w bk L W ls gs hs) (hb : ∀ l ∈ ls, Byt l) (hn : ls.length < 9223372036854775807) (k : ∀ w1, Upd [] [] w w1 → R (.bool true) w1) : Ret Tryd.prog 63 [.ptr (some ⟨bk, 0, none⟩)] w R := by
  refine f63_of _ _ _ ?_
  unfold vc63
  have hal := h.A.len
  have hbl := h.B.len
  have hLl := h.A.row.len
  have hWl := h.B.row.len
  refine ⟨fun i w1 => Upd [] [] w w1 ∧ ∃ t : Nat, i = t ∧ t ≤ ls.length, fun i _ => (ls.length - i).toNat, ⟨Upd.refl _, 0, rfl, by omega⟩, ?_⟩
  rintro i w1 ⟨u1, t, rfl, ht⟩
  have h1 := h.old (n := 0) u1
  have b0 : w1.cell? ⟨bk, 0, none⟩ = some L.val := by have := h1.box.sl 0 L rfl; rwa [add_zero] at this
  have b1 := h1.box.sl 1 W rfl
  refine ⟨L, b0, brd (fun hlt => ?_) (fun hge => k _ u1)⟩
  have ht2 : t < ls.length := by omega
  obtain ⟨a1, a2⟩ := slC h1.A.row t (by omega)
  obtain ⟨a3, a4⟩ := slC h1.B.row t (by omega)
  have hbt := hb _ (List.getElem_mem ht2)
  refine ⟨L, b0, needIx (by omega) (by omega) (h2 := a2) ⟨_, a1, W, b1, needIx (by omega) (by omega) (h2 := a4) ⟨_, a3, fun w2 u2 => ?_⟩⟩⟩
  refine c87 ((h1.A.each t ht2).old u2) ((h1.B.each t ht2).old u2) hbt hbt ⟨_, rfl, brf (by simp) ?_⟩
  exact ⟨⟨u1.then u2, t + 1, wr_succ (by omega), by omega⟩, by rw [wr_succ (q := t) (by omega)]; (try dsimp only); omega⟩
def bz (i : Nat) : Int := wr .u8 (wr .i64 (1 + Int.tmod (i : Int) 251))
/-- the lists below t hold their marks alone -/
def MarkedB (ls : List (List Int)) (t : Nat) : Prop := ∀ j (h : j < ls.length), j < t → ∀ y ∈ ls[j], y = bz j
set_option maxRecDepth 10000 in
theorem c65T {N bk : Nat} {L W : Sl} {ls : List (List Int)} {gs hs : List Sl} (h : Bok N w bk L W ls gs hs) (hn : ls.length ≤ 549755813888) (hl : ∀ l ∈ ls, l.length ≤ 549755813888) (hbt : ∀ l ∈ ls, Byt l) (hN : N ≤ w.heap.size) (k : ∀ w1 ms, Upd ms [] w w1 → (∀ x ∈ ms, x ∈ lotB L gs) → R (.bool true) w1) : Ret Tryd.prog 65 [.ptr (some ⟨bk, 0, none⟩)] w R := by
  refine f65_of _ _ _ ?_
  unfold vc65
  have hal := h.A.len
  have hLl := h.A.row.len
  refine c63T h hbt (by omega) fun w1 u1 => ⟨_, rfl, brf rfl ?_⟩
  have h1 := h.old (n := 0) u1
  have hglen : ∀ j (hj : j < gs.length), gs[j].len ≤ 549755813888 := fun j hj => by
    have := (h.A.each j (by omega)).len
    rw [this]; exact hl _ (List.getElem_mem _)
  have inB : ∀ g ∈ gs, ∀ x ∈ g.blk, x ∈ lotB L gs := fun g hg x hx => lotB_mem.2 (.inr ⟨g, hg, hx⟩)
  refine ⟨fun i w' => Upd (lotB L gs) [] w1 w' ∧ ∃ (ls' : List (List Int)) (t : Nat), LotC cU8 N w' L ls' gs ∧ i = t ∧ t ≤ gs.length ∧ MarkedB ls' t, fun i _ => (gs.length - i).toNat, ⟨(Upd.refl w1).wide (by simp), ls, 0, h1.A, rfl, by omega, fun j _ hj => by omega⟩, ?_⟩
  rintro i w2 ⟨u2, ls2, t, hA2, rfl, ht, hm2⟩
  have hx2 := h1.box.upd u2 h.offA
  have hal2 := hA2.len
  have b2 : w2.cell? ⟨bk, 0, none⟩ = some L.val := by have := hx2.sl 0 L rfl; rwa [add_zero] at this
  refine ⟨L, b2, brd (fun hlt => ?_) (fun hge => ?_)⟩
  · have ht2 : t < gs.length := by omega
    have hgt := hglen t ht2
    refine ⟨fun j w' => Upd (lotB L gs) [] w2 w' ∧ ∃ (ls' : List (List Int)) (q : Nat), LotC cU8 N w' L ls' gs ∧ MarkedB ls' t ∧ j = q ∧ q ≤ gs[t].len ∧ ∀ (ht : t < ls'.length) p (hp : p < ls'[t].length), p < q → ls'[t][p] = bz t, fun j _ => (gs[t].len - j).toNat, ⟨(Upd.refl w2).wide (by simp), ls2, 0, hA2, hm2, rfl, by omega, fun _ p _ hp => by omega⟩, ?_⟩
    rintro j w3 ⟨u3, ls3, q, hA3, hm3, rfl, hq, hm3q⟩
    have hx3 := hx2.upd u3 h.offA
    have hal3 := hA3.len
    have b3 : w3.cell? ⟨bk, 0, none⟩ = some L.val := by have := hx3.sl 0 L rfl; rwa [add_zero] at this
    obtain ⟨a1, a2⟩ := slC hA3.row t ht2
    refine ⟨L, b3, needIx (by omega) (by omega) (h2 := a2) ⟨_, a1, brd (fun hlt3 => ?_) (fun hge => ?_)⟩⟩
    · have ht3 : t < ls3.length := by omega
      have hlt := (hA3.each t ht3).len
      have hq2 : q < ls3[t].length := by omega
      obtain ⟨_, cN⟩ := byC (hA3.each t ht3) q hq2
      refine ⟨L, b3, needIx (by omega) (by omega) (h2 := a2) ⟨_, a1, needIx (by omega) (by omega) (h2 := cN) ?_⟩⟩
      rw [Int.toNat_natCast]
      refine LotC.set (c := cU8) (y := bz t) hA3 (by decide) ht3 ht2 hq2 rfl fun w4 hA4 u4 => ?_
      (repeat refine And.intro rfl ?_)
      refine ⟨⟨u3.step u4 (fun x hx => .inr (inB _ (List.getElem_mem ht2) x hx)), _, q + 1, hA4, ?_, wr_succ (by omega), by omega, ?_⟩, by rw [wr_succ (q := q) (by omega)]; (try dsimp only); omega⟩
      · intro j hj hjt y hy
        rw [List.getElem_set_ne (by omega)] at hy
        exact hm3 j _ hjt y hy
      · intro ht p hp hpq
        simp only [List.getElem_set_self] at hp ⊢
        by_cases e : p = q
        · subst e; simp
        · rw [List.getElem_set_ne (by omega)]
          exact hm3q ht3 p _ (by omega)
    · (repeat refine And.intro rfl ?_)
      have ht3 : t < ls3.length := by omega
      have hlt := (hA3.each t ht3).len
      refine ⟨⟨u2.step u3 (fun x hx => .inr hx), ls3, t + 1, hA3, wr_succ (by omega), by omega, fun j hj hjt y hy => ?_⟩, by rw [wr_succ (q := t) (by omega)]; (try dsimp only); omega⟩
      by_cases e : j < t
      · exact hm3 j hj e y hy
      · obtain rfl : j = t := by omega
        obtain ⟨p, hp, rfl⟩ := List.getElem_of_mem hy
        exact hm3q hj p hp (by omega)
  · have htl : t = gs.length := by omega
    subst htl
    (repeat refine And.intro rfl ?_)
    have hG : ∀ j (hj : j < gs.length), Sees cU8 w2 gs[j] (List.replicate gs[j].len (bz j)) := fun j hj => by
      have h3 := hA2.each j (by omega)
      rw [h3.len, ← List.eq_replicate_iff.2 ⟨rfl, hm2 j (by omega) hj⟩]
      exact h3
    have y1 := u1.size
    have y2 := u2.size
    have gsB : ∀ j (hj : j < gs.length), ∀ x ∈ gs[j].blk, N ≤ x ∧ x < w2.heap.size := fun j hj x hx => (hA2.owns _ (List.getElem_mem hj)).blk x hx
    have hLd : ∀ x ∈ L.blk, x ∉ gs.flatMap Sl.blk := fun x hx hm => by
      obtain ⟨g, hg, hx2⟩ := List.mem_flatMap.1 hm
      exact hA2.off g hg x hx2 hx
    have hbd : bk ∉ gs.flatMap Sl.blk := fun hm => h.offA (List.mem_append_right _ hm)
    have inF : ∀ j (hj : j < gs.length), ∀ x ∈ gs[j].blk, x ∈ gs.flatMap Sl.blk := fun j hj x hx => List.mem_flatMap.2 ⟨_, List.getElem_mem hj, hx⟩
    refine ⟨fun more i w' => Upd (gs.flatMap Sl.blk) [] w2 w' ∧ Own w2.heap.size 1 w' more ∧ ∃ (mg : List Sl) (t : Nat), i = t ∧ t ≤ gs.length ∧ mg.length = t ∧ Sees cSl w' more mg ∧ (∀ j (hj : j < gs.length), Sees cU8 w' gs[j] (List.replicate gs[j].len (bz j))) ∧ (∀ j (hj : j < gs.length), t ≤ j → Own N 1 w' gs[j]) ∧ (∀ j (hj : j < mg.length), ∃ n : Nat, n ≤ 4398046511104 ∧ Sees cU8 w' mg[j] (List.replicate n (bz j))) ∧ (∀ j (hj : j < mg.length) (hj2 : j < gs.length), ∀ x ∈ mg[j].blk, (x ∈ gs[j].blk ∨ w2.heap.size ≤ x) ∧ x < w'.heap.size ∧ x ∉ more.blk), fun _ i _ => (gs.length - i).toNat,
      ⟨(Upd.refl w2).wide (by simp), Own.none _ _ _, [], 0, rfl, by omega, rfl, Sees.nil _ _ _ _, hG, fun j hj _ => hA2.owns _ (List.getElem_mem hj), by simp, by simp⟩, ?_⟩
    rintro more i w3 ⟨u3, oM, mg, t, rfl, ht, hmg, hM, hG3, hO3, hS3, hB3⟩
    have hx3 := hx2.upd u3 hbd
    have y3 := u3.size
    have hL3 := hA2.row.upd u3 hLd
    have b3 : w3.cell? ⟨bk, 0, none⟩ = some L.val := by have := hx3.sl 0 L rfl; rwa [add_zero] at this
    refine ⟨L, b3, brd (fun hlt => ?_) (fun hge => ?_)⟩
    · have ht2 : t < gs.length := by omega
      have hgt := hglen t ht2
      obtain ⟨a1, a2⟩ := slC hL3 t ht2
      refine ⟨L, b3, needIx (by omega) (by omega) (h2 := a2) ⟨_, a1, ?_⟩⟩
      have e70 : wr .i64 (wr .i64 (2 * (gs[t].len : Int)) + 70) = ((2 * gs[t].len + 70 : Nat) : Int) := by rw [wr_i64 (x := 2 * (gs[t].len : Int)) (by omega) (by omega), wr_i64 (by omega) (by omega)]; omega
      refine ⟨fun s4 w' => Upd gs[t].blk [] w3 w' ∧ Own N 1 w' s4 ∧ ∃ k : Nat, gs[t].len ≤ k ∧ k ≤ 2 * gs[t].len + 70 ∧ Sees cU8 w' s4 (List.replicate k (bz t)) ∧ Sees cU8 w' gs[t] (List.replicate gs[t].len (bz t)) ∧ (s4.ptr = gs[t].ptr ∨ ∀ z ∈ gs[t].blk, z ∉ s4.blk) ∧ (∀ z ∈ s4.blk, z ∈ gs[t].blk ∨ w3.heap.size ≤ z), fun s4 _ => 2 * gs[t].len + 70 - s4.len,
        ⟨(Upd.refl w3).wide (by simp), hO3 t ht2 (Nat.le_refl _), gs[t].len, Nat.le_refl _, by omega, hG3 t ht2, hG3 t ht2, .inl rfl, fun z hz => .inl hz⟩, ?_⟩
      rintro s4 w4 ⟨u4, o4, k4, hk1, hk2, hs4, hg4, hp4, hb4⟩
      have hsl := hs4.len
      rw [List.length_replicate] at hsl
      have y4 := u4.size
      rw [e70]
      refine brd (fun hlt4 => ?_) (fun hge4 => ?_)
      · intro b w5 u5 hr5
        have y5 := u5.size
        refine app_mkC (b := gs[t]) (y := bz t) (hg4.old u5) (hs4.old u5) (o4.old u5) hk1 hp4 (rowB hr5 [bz t] rfl rfl) (by omega) (fun z hz => by have := gsB t ht2 z hz; omega) (by decide) (by omega) fun r w6 hr6 o6 hg6 hp6 u6 hn6 => ?_
        have hrl := hr6.len
        rw [List.length_replicate] at hrl
        refine ⟨⟨(u4.step u5 (by simp)).step u6 (fun x hx => by rcases hb4 x hx with q | q; exact .inr q; exact .inl q), o6, k4 + 1, by omega, by omega, hr6, hg6, hp6, fun z hz => ?_⟩, by (try dsimp only); omega⟩
        rcases hn6 z hz with q | q
        · exact hb4 z q
        · exact .inr (by omega)
      · intro b w5 u5 hr5
        have y5 := u5.size
        have t35 := u4.step u5 (by simp)
        have mB := oM.blk
        have dM : ∀ x ∈ more.blk, x ∉ gs[t].blk := fun x hx hm => by have := mB x hx; have := gsB t ht2 x hm; omega
        have dG : ∀ j (hj : j < gs.length), j ≠ t → ∀ x ∈ gs[j].blk, x ∉ gs[t].blk := fun j hj hne => hA2.index j t hj ht2 hne
        refine append_own (c := cSl) (new := [s4]) (hM.upd t35 dM) (oM.upd t35 dM) (sees_row hr5 [s4] rfl rfl) (by omega) (by simp) (by decide) (by simp; omega) fun more' w6 hM6 oM6 u6 hn6 => ?_
        have y6 := u6.size
        have dm : ∀ j (hj : j < gs.length), ∀ x ∈ gs[j].blk, x ∉ more.blk := fun j hj x hx hm => by have := mB x hm; have := gsB j hj x hx; omega
        have s4B := o4.blk
        have s4d : ∀ x ∈ s4.blk, x ∉ more.blk := fun x hx hm => by
          rcases hb4 x hx with q | q
          · exact dm t ht2 x q hm
          · have := mB x hm; omega
        have mgd : ∀ j (hj : j < mg.length), ∀ x ∈ mg[j].blk, x ∉ gs[t].blk := fun j hj x hx hm => by
          obtain ⟨q, _, _⟩ := hB3 j hj (by omega) x hx
          rcases q with q | q
          · exact dG j (by omega) (by omega) x q hm
          · have := gsB t ht2 x hm; omega
        refine ⟨⟨(u3.step t35 (fun x hx => .inr (inF t ht2 x hx))).step u6 (fun x hx => .inl (mB x hx).1), oM6, mg ++ [s4], t + 1, wr_succ (by omega), by omega, by simp [hmg], hM6, fun j hj => ?_, fun j hj htj => ?_, fun j hj => ?_, fun j hj hj2 x hx => ?_⟩, by rw [wr_succ (q := t) (by omega)]; (try dsimp only); omega⟩
        · by_cases e : j = t
          · subst e; exact (hg4.old u5).upd u6 (dm j hj)
          · exact ((hG3 j hj).upd t35 (dG j hj e)).upd u6 (dm j hj)
        · exact ((hO3 j hj (by omega)).upd t35 (dG j hj (by omega))).upd u6 (dm j hj)
        · by_cases e : j < mg.length
          · obtain ⟨n, n1, n2⟩ := hS3 j e
            refine ⟨n, n1, ?_⟩
            rw [List.getElem_append_left e]
            exact (n2.upd t35 (mgd j e)).upd u6 (fun x hx => (hB3 j e (by omega) x hx).2.2)
          · have hj' : j = mg.length := by simp at hj; omega
            subst hj'
            have e1 : (mg ++ [s4])[mg.length] = s4 := by simp
            rw [e1]
            subst hmg
            exact ⟨k4, by omega, (hs4.old u5).upd u6 s4d⟩
        · have hnew : ∀ x, (x < w5.heap.size ∧ x ∉ more.blk) → x ∉ more'.blk := fun x hx hm => by
            rcases hn6 x hm with q | q
            · exact hx.2 q
            · omega
          by_cases e : j < mg.length
          · rw [List.getElem_append_left e] at hx
            obtain ⟨q1, q2, q3⟩ := hB3 j e hj2 x hx
            exact ⟨q1, by omega, hnew x ⟨by omega, q3⟩⟩
          · have hj' : j = mg.length := by simp at hj; omega
            subst hj'
            have e1 : (mg ++ [s4])[mg.length] = s4 := by simp
            rw [e1] at hx
            have := s4B x hx
            refine ⟨?_, by omega, hnew x ⟨by omega, s4d x hx⟩⟩
            rcases hb4 x hx with q | q
            · left; subst hmg; exact q
            · right; omega
    · have htl : t = gs.length := by omega
      subst htl
      refine ⟨fun i w' => w' = w3 ∧ ∃ t : Nat, i = t ∧ t ≤ gs.length, fun i _ => (gs.length - i).toNat, ⟨rfl, 0, rfl, by omega⟩, ?_⟩
      rintro i w4 ⟨rfl, t, rfl, ht⟩
      refine ⟨L, b3, brd (fun hlt => ?_) (fun hge => ?_)⟩
      · intro J hJ
        have ht2 : t < gs.length := by omega
        have hgt := hglen t ht2
        have ht3 : t < mg.length := by omega
        obtain ⟨a1, a2⟩ := slC hL3 t ht2
        obtain ⟨a3, a4⟩ := slC hM t ht3
        have hMl := hM.len
        obtain ⟨n, n1, n2⟩ := hS3 t ht3
        refine ⟨L, b3, needIx (by omega) (by omega) (h2 := a2) ⟨_, a1, ?_⟩⟩
        refine c94T (hG3 t ht2) (fun y hy => List.eq_of_mem_replicate hy) (by rw [List.length_replicate]; omega) ⟨_, rfl, brf rfl (needIx (by omega) (by omega) (h2 := a4) ⟨_, a3, ?_⟩)⟩
        refine c94T n2 (fun y hy => List.eq_of_mem_replicate hy) (by rw [List.length_replicate]; omega) ⟨_, rfl, brf rfl ?_⟩
        (repeat refine And.intro rfl ?_)
        refine hJ _ ?_
        (repeat refine And.intro rfl ?_)
        exact ⟨⟨rfl, t + 1, wr_succ (by omega), by omega⟩, by rw [wr_succ (q := t) (by omega)]; (try dsimp only); omega⟩
      · refine k _ (lotB L gs) (((u1.wide (m' := lotB L gs) (by simp)).step u2 (fun x hx => .inr hx)).step u3 (fun x hx => .inr (List.mem_append_right _ hx))) (fun x hx => hx)
end Go.Vc.S9
end

section
open Go Go.Vc Go.Proofs
set_option linter.unusedVariables false
set_option linter.unusedSimpArgs false
set_option autoImplicit false
namespace Go.Vc.S9
/-- options, each with bytes in an array of its own -/
structure Lst (N : Nat) (w : World) (s : Sl) (l : List Opt) (os : List (Int × Sl)) : Prop where
  opts : Opts w s l os
  own : Own N 2 w s
  owns : ∀ x ∈ os, Own N 1 w x.2
  dis : ∀ i j (hi : i < os.length) (hj : j < os.length), i ≠ j → ∀ b ∈ os[i].2.blk, b ∉ os[j].2.blk
  off : ∀ x ∈ os, ∀ b ∈ x.2.blk, b ∉ s.blk
def lstB (s : Sl) (os : List (Int × Sl)) : List Nat := s.blk ++ os.flatMap fun x => x.2.blk
theorem lstB_mem {s : Sl} {os : List (Int × Sl)} {b : Nat} : b ∈ lstB s os ↔ b ∈ s.blk ∨ ∃ x ∈ os, b ∈ x.2.blk := by simp [lstB]
section
variable {N : Nat} {w w1 : World} {s : Sl} {l : List Opt} {os : List (Int × Sl)} {R : SV → World → Prop}
theorem Lst.upd {m n : List Nat} (h : Lst N w s l os) (u : Upd m n w w1) (hm : ∀ x ∈ lstB s os, x ∉ m) : Lst N w1 s l os :=
  have h1 : ∀ b ∈ s.blk, b ∉ m := fun b hb => hm b (lstB_mem.2 (.inl hb))
  have h2 : ∀ x ∈ os, ∀ b ∈ x.2.blk, b ∉ m := fun x hx b hb => hm b (lstB_mem.2 (.inr ⟨x, hx, hb⟩))
  ⟨h.opts.upd u h1 h2, h.own.upd u h1, fun x hx => (h.owns x hx).upd u (h2 x hx), h.dis, h.off⟩
theorem Lst.old {n : List Nat} (h : Lst N w s l os) (u : Upd [] n w w1) : Lst N w1 s l os := h.upd u (by simp)
theorem Lst.lt (h : Lst N w s l os) : ∀ x ∈ lstB s os, N ≤ x ∧ x < w.heap.size := fun x hx => by
  rcases lstB_mem.1 hx with q | ⟨y, hy, q⟩
  · exact h.own.blk x q
  · exact (h.owns y hy).blk x q
theorem Lst.mono {M : Nat} (h : Lst N w s l os) (hM : M ≤ N) : Lst M w s l os := ⟨h.opts, h.own.mono hM, fun x hx => (h.owns x hx).mono hM, h.dis, h.off⟩
end
section
variable {w w1 : World} {R : SV → World → Prop}
end
section
variable {N : Nat} {w w1 : World} {s data : Sl} {l : List Opt} {os : List (Int × Sl)} {dl : List Int} {R : SV → World → Prop}
/-- one byte of one option is another -/
theorem Lst.set {i q : Nat} {v : Int} {vs : List Value} {bs : List Nat} {F : World → Prop} (h : Lst N w s l os) (hi : i < l.length) (hq : q < l[i].data.length) (hvs : vs = [.int .u8 v]) (hbs : ∀ b ∈ lstB s os, b ∉ bs)
    (k : ∀ w1, Lst N w1 s (l.set i { l[i] with data := l[i].data.set q v }) os → Upd (lstB s os) [] w w1 → F w1) : Store w ((os[i]'(by rw [h.opts.len]; exact hi)).2.at 1 q) vs bs F := by
  subst hvs
  have hi' : i < os.length := by rw [h.opts.len]; exact hi
  have mem := List.getElem_mem hi'
  have inB : ∀ b ∈ os[i].2.blk, b ∈ lstB s os := fun b hb => lstB_mem.2 (.inr ⟨_, mem, hb⟩)
  refine own_set (c := cU8) (i := q) (x := v) (h.opts.each i hi) (h.owns _ mem) (by decide) hq rfl (fun b hb => hbs b (inB b hb)) fun w1 h1 o1 u1 => ?_
  refine k w1 ⟨⟨h.opts.row.upd u1 (fun b hb hm => h.off _ mem b hm hb), by rw [List.length_set]; exact h.opts.len, fun j hj => ?_, fun j hj => ?_⟩, h.own.upd u1 (fun b hb hm => h.off _ mem b hm hb), fun x hx => ?_, h.dis, h.off⟩ (u1.wide inB)
  · rw [List.length_set] at hj
    by_cases e : i = j
    · subst e; simp only [List.getElem_set_self]; exact h.opts.kind i hj
    · rw [List.getElem_set_ne e]; exact h.opts.kind j hj
  · rw [List.length_set] at hj
    by_cases e : i = j
    · subst e; simp only [List.getElem_set_self]; exact h1
    · rw [List.getElem_set_ne e]; exact (h.opts.each j hj).upd u1 (fun b hb hm => h.dis j i (by rw [h.opts.len]; exact hj) hi' (fun e' => e e'.symm) b hb hm)
  · obtain ⟨j, hj, rfl⟩ := List.getElem_of_mem hx
    by_cases e : i = j
    · subst e; exact o1
    · exact (h.owns _ hx).upd u1 (fun b hb hm => h.dis j i hj hi' (fun e' => e e'.symm) b hb hm)
/-- the lists' forms -/
def frm (l : List Opt) : List (Int × Nat) := l.map fun o => (o.kind, o.data.length)
theorem frm_set {i : Nat} {d : List Int} (hi : i < l.length) (hd : d.length = l[i].data.length) : frm (l.set i { l[i] with data := d }) = frm l := by
  unfold frm
  rw [List.map_set]
  apply List.ext_getElem
  · simp
  · intro j h1 h2
    rw [List.getElem_set]
    split
    · rename_i e; subst e; simp [hd]
    · rfl
set_option maxRecDepth 10000 in
theorem c64 {t : Nat → Int} (hd : SeesB w data dl) (od : Own N 1 w data) (hb : Byt dl) (h : Lst N w s l os) (hap : ∀ x ∈ data.blk, x ∉ lstB s os) (hbo : ∀ o ∈ l, Byt o.data) (ht : -9223372036854775808 ≤ t 0 ∧ t 0 ≤ 9223372036854775807)
    (hdl : dl.length ≤ 140737488355328) (hll : l.length ≤ 140737488355328) (hol : ∀ o ∈ l, o.data.length ≤ 140737488355328)
    (k : ∀ w1 dl' l', Upd (data.blk ++ lstB s os) [] w w1 → SeesB w1 data dl' → Own N 1 w1 data → Lst N w1 s l' os → dl'.length = dl.length → frm l' = frm l → Byt dl' → (∀ o ∈ l', Byt o.data) → R (.tuple []) w1) :
    Ret Tryd.prog 64 [.slice data, .slice s, .arr .i64 2 t] w R := by
  refine f64_of _ _ _ _ _ ?_
  unfold vc64
  have hdn := hd.len
  have hsn := h.opts.slen
  intro b J hJ
  have off : ∀ w1, Upd [] [b] w w1 → ∀ x, (x ∈ data.blk ∨ x ∈ lstB s os) → x ∉ [b] := fun w1 u1 x hx hm => by
    have e1 := u1.new (b := b) (by simp)
    simp at hm
    rcases hx with q | q
    · have := od.blk x q; omega
    · have := h.lt x q; omega
  have pt : ∀ dl' w1, (∀ x, (x ∈ data.blk ∨ x ∈ lstB s os) → x ∉ [b]) → Upd (data.blk ++ lstB s os) [] w w1 → SeesB w1 data dl' → Own N 1 w1 data → Lst N w1 s l os → dl'.length = dl.length → Byt dl' → J w1 := by
    intro dl' w1 hoff u1 hd1 od1 h1 hlen hb1
    refine hJ _ ?_
    clear hJ
    refine bre (fun _ => k w1 dl' l u1 hd1 od1 h1 hlen rfl hb1 hbo) (fun hne => ?_)
    have hpos : 0 < l.length := by
      rcases Nat.eq_zero_or_pos l.length with e | e
      · exact absurd (by rw [hsn, e]; rfl) hne
      · exact e
    rw [hsn]
    refine c50 hpos (by omega) ht fun i hi => ⟨_, rfl, kp (Upd.refl _), ?_⟩
    obtain ⟨g1, g2, g3, g4⟩ := h1.opts.get i hi
    have hoi := hol _ (List.getElem_mem hi)
    have hg3 := g3.len
    rw [Int.toNat_natCast]
    refine needIx (by omega) (by omega) g4 ⟨_, g2, brd (fun hp w2 u2 => ?_) (fun _ => k w1 dl' l u1 hd1 od1 h1 hlen rfl hb1 hbo)⟩
    rw [hg3]
    refine c50 (by omega) (by omega) ht fun q hq => ⟨_, rfl, kp (Upd.refl _), u2, ?_⟩
    refine needIx (by omega) (by omega) (g3.isSome (by decide) (by omega)) ?_
    rw [Int.toNat_natCast]
    refine (h1.old u2).set (v := wr .u8 (t 1)) hi hq rfl (fun x hx => hoff x (.inr hx)) fun w3 h3 u3 => ?_
    have kd : ∀ x ∈ data.blk, x ∉ lstB s os := hap
    refine k w3 dl' _ ((u1.step u2 (by simp)).step u3 (fun x hx => .inr (List.mem_append_right _ hx))) ((hd1.old u2).upd u3 kd) ((od1.old u2).upd u3 kd) h3 hlen (frm_set hi (by simp)) hb1 ?_
    intro o ho
    rcases List.mem_or_eq_of_mem_set ho with q | q
    · exact hbo o q
    · subst q; exact (hbo _ (List.getElem_mem hi)).set q (wr_u8_range _)
  refine brd (fun hpos w1 u1 => ?_) (fun _ w1 u1 => ⟨rfl, pt dl w1 (off w1 u1) (u1.wide (by simp)) (hd.old u1) (od.old u1) (h.old u1) rfl hb⟩)
  rw [hdn]
  refine c50 (by omega) (by omega) ht fun q hq => ⟨_, rfl, kp (Upd.refl _), u1.forget, ?_⟩
  refine needIx (by omega) (by omega) (hd.isSome (by decide) (by omega)) ?_
  rw [Int.toNat_natCast]
  refine own_set (c := cU8) (i := q) (x := wr .u8 (t 1)) (hd.old u1) (od.old u1) (by decide) hq rfl (fun x hx => off w1 u1 x (.inl hx)) fun w2 h2 o2 u2 => ?_
  refine ⟨rfl, ?_⟩
  exact pt _ w2 (off w1 u1) ((u1.wide (m' := data.blk ++ lstB s os) (by simp)).step u2 (fun x hx => .inr (List.mem_append_left _ hx))) h2 o2 ((h.old u1).upd u2 (fun x hx hm => hap x hm hx)) (by simp) (hb.set q (wr_u8_range _))
end
end Go.Vc.S9
end

section
open Go Go.Vc Go.Proofs
set_option linter.unusedVariables false
set_option linter.unusedSimpArgs false
set_option autoImplicit false
namespace Go.Vc.S9
variable {w : World} {R : SV → World → Prop}
set_option maxRecDepth 20000 in
/-- bytes laid on a desk -/
theorem c43D {N bd : Nat} {b room : Sl} {n : Int} {L l : List Int} (hx : Bx w bd [.sl room, .int n]) (hr : SeesB w room L) (ho : Own N 1 w room) (hoff : bd ∉ room.blk) (hL : L.length ≤ 281474976710656) (hN : N ≤ w.heap.size)
    (h : SeesB w b l) (hl : l.length ≤ 140737488351232) (hb : ∀ x ∈ b.blk, x < w.heap.size ∧ x ∉ room.blk ∧ x ≠ bd)
    (k : ∀ room' K w1 ms, Upd ms [] w w1 → (∀ x ∈ ms, x = bd ∨ x ∈ room.blk) → Dsk N w1 bd l K room' → K ≤ 281474976710656 → (∀ x ∈ room'.blk, w.heap.size ≤ x ∨ x ∈ room.blk) → R (.slice (room'.sub 1 0 (Int.toNat (b.len : Int)) room'.cap)) w1) : Ret Tryd.prog 43 [.ptr (some ⟨bd, 0, none⟩), .slice b] w R := by
  refine f43_of _ _ _ _ ?_
  unfold vc43
  have hbl := h.len
  have hrl := hr.len
  intro J hJ
  have main : ∀ room' L' w2 ms, Upd ms [] w w2 → (∀ x ∈ ms, x = bd ∨ x ∈ room.blk) → Bx w2 bd [.sl room', .int n] → SeesB w2 room' L' → Own N 1 w2 room' → bd ∉ room'.blk → (∀ x ∈ room'.blk, w.heap.size ≤ x ∨ x ∈ room.blk) → SeesB w2 b l → (∀ x ∈ b.blk, x ∉ room'.blk) → 2 * l.length + 70 ≤ L'.length → L'.length ≤ 281474976710656 → J w2 := by
    intro room' L' w2 ms u hms hx2 hr2 ho2 hoff2 hnew h2 hdis hbig hlim
    refine hJ _ ?_
    have hl2 := hr2.len
    refine ⟨fun i w' => Upd room'.blk [] w2 w' ∧ Own N 1 w' room' ∧ ∃ t : Nat, i = t ∧ t ≤ L'.length ∧ SeesB w' room' ((dmks L'.length).take t ++ L'.drop t), fun i _ => (L'.length - i).toNat, ⟨(Upd.refl w2).wide (by simp), ho2, 0, rfl, by omega, by simpa using hr2⟩, ?_⟩
    rintro i w3 ⟨u3, o3, t, rfl, ht, hs3⟩
    have hx3 := hx2.upd u3 hoff2
    have hsl3 := hs3.len
    refine ⟨room', by have := hx3.sl 0 room' rfl; rwa [add_zero] at this, ?_⟩
    refine brd (fun hlt => ⟨room', by have := hx3.sl 0 room' rfl; rwa [add_zero] at this, fun w4 u4 => c82 ⟨_, rfl, u4.forget, ?_⟩⟩) (fun hge => ?_)
    · have ht2 : t < L'.length := by omega
      refine needIx (by omega) (by omega) (h2 := hs3.isSome (by decide) (by omega)) ?_
      rw [Int.toNat_natCast]
      refine own_set (c := cU8) (x := dmk t) (hs3.old u4) (o3.old u4) (by decide) (by omega) rfl (by simp) fun w5 hs5 o5 u5 => ?_
      have e : dmk t = (dmks L'.length)[t]'(by rw [dmks_len]; exact ht2) := by simp [dmks]
      rw [e, set_mid (by rw [dmks_len]; exact ht2) (by rw [dmks_len])] at hs5
      exact ⟨⟨(u3.step u4 (by simp)).step u5 (fun x hx => .inr hx), o5, t + 1, wr_succ (by omega), by omega, hs5⟩, by rw [wr_succ (q := t) (by omega)]; (try dsimp only); omega⟩
    · have htl : t = L'.length := by omega
      subst htl
      rw [List.take_of_length_le (by rw [dmks_len]; omega), List.drop_length, List.append_nil] at hs3
      have hb3 := h2.upd u3 hdis
      refine ⟨room', by have := hx3.sl 0 room' rfl; rwa [add_zero] at this, ?_⟩
      refine copy_own (c := cU8) hs3 o3 hb3 (by simp) fun w4 hs4 o4 u4 => ?_
      rw [dmks_len, List.take_of_length_le (by omega)] at hs4
      have hx4 := hx3.upd u4 hoff2
      dsimp only [deref]
      refine hx4.set (y := .int b.len) 1 (show 1 < 2 by decide) rfl (List.not_mem_nil) fun w5 hx5 u5 => ?_
      have hs5 := hs4.upd u5 (fun y hy hm => by simp at hm; exact hoff2 (hm ▸ hy))
      have o5 := o4.upd u5 (fun y hy hm => by simp at hm; exact hoff2 (hm ▸ hy))
      refine ⟨room', by have := hx5.sl 0 room' rfl; rwa [add_zero] at this, need (by have := o5.le; simp; omega) ?_⟩
      have uu : Upd (bd :: (ms ++ room.blk)) [] w w5 := (((u.wide (m' := bd :: (ms ++ room.blk)) (fun x hx => by simp [hx])).step u3 (fun x hx => by rcases hnew x hx with q | q; exact .inl q; exact .inr (by simp [q]))).step u4 (fun x hx => by rcases hnew x hx with q | q; exact .inl q; exact .inr (by simp [q]))).step u5 (fun x hx => .inr (by simp at hx; simp [hx]))
      rw [hbl] at hx5
      exact k room' L'.length w5 _ uu (fun x hx => by
        simp at hx
        rcases hx with q | q | q
        · exact .inl q
        · exact hms x q
        · exact .inr q) ⟨hx5, hs5, by omega, o5, hoff2⟩ hlim hnew
  have e1 : wr .i64 (wr .i64 (2 * (b.len : Int)) + 70) = (2 * l.length + 70 : Nat) := by rw [wr_i64 (x := 2 * (b.len : Int)) (by omega) (by omega), wr_i64 (by omega) (by omega)]; omega
  have e2 : wr .i64 (wr .i64 (2 * (b.len : Int)) + 512) = (2 * l.length + 512 : Nat) := by rw [wr_i64 (x := 2 * (b.len : Int)) (by omega) (by omega), wr_i64 (by omega) (by omega)]; omega
  refine ⟨room, by have := hx.sl 0 room rfl; rwa [add_zero] at this, ?_⟩
  rw [e1, e2]
  refine brd (fun hlt => need (by simp only [Bool.and_eq_true, decide_eq_true_eq]; omega) ?_) (fun hge => main room L w [] (Upd.refl w) (by simp) hx hr ho hoff (fun x hx => .inr hx) h (fun x hx => (hb x hx).2.1) (by omega) hL)
  intro b1 w1 u1 hr1
  rw [Int.toNat_natCast] at hr1 ⊢
  have n1 := u1.new (b := b1) (by simp)
  have hbd := hx.lt
  have hz : zerosOf (.int .u8) (2 * l.length + 512) = cU8.cells (List.replicate (2 * l.length + 512) 0) := zeros_cells _
  rw [hz] at hr1
  have hs1 : SeesB w1 ⟨some ⟨b1, 0, none⟩, 2 * l.length + 512, 2 * l.length + 512⟩ (List.replicate (2 * l.length + 512) 0) := sees_row hr1 _ rfl (by simp)
  have ho1 : Own N 1 w1 ⟨some ⟨b1, 0, none⟩, 2 * l.length + 512, 2 * l.length + 512⟩ := own_row hr1 (by omega) (by rw [cU8.cells_length]; simp [cU8]) (Nat.le_refl _)
  have hbn : bd ≠ b1 := by omega
  refine bx_set0 (y := .sl ⟨some ⟨b1, 0, none⟩, 2 * l.length + 512, 2 * l.length + 512⟩) (hx.old u1) (show 0 < 2 by decide) rfl (List.not_mem_nil) fun w2 hx2 u2 => ?_
  have nb : ∀ x ∈ Sl.blk ⟨some ⟨b1, 0, none⟩, 2 * l.length + 512, 2 * l.length + 512⟩, x ∉ [bd] := fun x hx hm => by simp [Sl.blk] at hx hm; omega
  refine main _ _ w2 [bd] ((u1.wide (m' := [bd]) (by simp)).step u2 (fun x hx => .inr hx)) (fun x hx => by simp at hx; exact .inl hx) hx2 (hs1.upd u2 nb) (ho1.upd u2 nb) (by simpa [Sl.blk] using hbn) (fun x hx => by simp [Sl.blk] at hx; exact .inl (by omega)) ((h.old u1).upd u2 (fun x hx hm => by simp at hm; exact (hb x hx).2.2 hm)) (fun x hx hm => by have := (hb x hx).1; simp [Sl.blk] at hm; omega) (by simp) (by simp; omega)
end Go.Vc.S9
end

section
open Go Go.Vc Go.Proofs
set_option linter.unusedVariables false
set_option linter.unusedSimpArgs false
set_option autoImplicit false
namespace Go.Vc.S9
def cPt : Cod Nat := ⟨1, fun p => [.pointer (some ⟨p, 0, none⟩)], fun _ => rfl, by simp [Value.oneCell']⟩
/-- a desk, whatever lies on it -/
structure Dq (N : Nat) (w : World) (p : Nat) (room : Sl) : Prop where
  box : ∃ n, Bx w p [.sl room, .int n]
  sees : ∃ L, SeesB w room L ∧ L.length ≤ 281474976710656
  own : Own N 1 w room
  off : p ∉ room.blk
  le : N ≤ p
def dqB (d : Nat × Sl) : List Nat := d.1 :: d.2.blk
structure Rm (N : Nat) (w : World) (br : Nat) (L D : Sl) (n : Int) (lc : List (Int × Sl)) (ds : List (Nat × Sl)) : Prop where
  box : Bx w br [.sl L, .int n, .sl D]
  le : N ≤ br
  lrow : Sees cOpt w L lc
  lown : Own N 2 w L
  llen : lc.length ≤ 8796093022208
  drow : Sees cPt w D (ds.map Prod.fst)
  down : Own N 1 w D
  dlen : ds.length ≤ 4398046511000
  desk : ∀ d ∈ ds, Dq N w d.1 d.2
  dis : ∀ i j (hi : i < ds.length) (hj : j < ds.length), i ≠ j → ∀ b ∈ dqB ds[i], b ∉ dqB ds[j]
  base : br ∉ L.blk ∧ br ∉ D.blk ∧ ∀ b ∈ L.blk, b ∉ D.blk
  offd : ∀ d ∈ ds, ∀ b ∈ dqB d, b ≠ br ∧ b ∉ L.blk ∧ b ∉ D.blk
def rmB (br : Nat) (L D : Sl) (ds : List (Nat × Sl)) : List Nat := br :: (L.blk ++ (D.blk ++ ds.flatMap dqB))
theorem rmB_mem {br : Nat} {L D : Sl} {ds : List (Nat × Sl)} {x : Nat} : x ∈ rmB br L D ds ↔ x = br ∨ x ∈ L.blk ∨ x ∈ D.blk ∨ ∃ d ∈ ds, x ∈ dqB d := by simp [rmB]
theorem at_blk {s : Sl} (h : s.ptr.isSome = true) (k i : Nat) : (s.at k i).block ∈ s.blk := by
  obtain ⟨a, ha⟩ := Option.isSome_iff_exists.1 h
  simp [Sl.at, ha, Sl.blk, add_block]
theorem at_blk1 {s : Sl} (h : s.ptr.isSome = true) (k i j : Nat) : ((s.at k i).add j).block ∈ s.blk := by
  rw [add_block]
  exact at_blk h k i
section
variable {N br : Nat} {w w1 : World} {L D : Sl} {n : Int} {lc : List (Int × Sl)} {ds : List (Nat × Sl)} {R : SV → World → Prop}
theorem Dq.upd {m nn : List Nat} {p : Nat} {room : Sl} (h : Dq N w p room) (u : Upd m nn w w1) (hm : ∀ b ∈ dqB (p, room), b ∉ m) : Dq N w1 p room := by
  obtain ⟨n, hb⟩ := h.box
  obtain ⟨L, hL, hl⟩ := h.sees
  have h1 : p ∉ m := hm p (by simp [dqB])
  have h2 : ∀ b ∈ room.blk, b ∉ m := fun b hb => hm b (by simp [dqB, hb])
  exact ⟨⟨n, hb.upd u h1⟩, ⟨L, hL.upd u h2, hl⟩, h.own.upd u h2, h.off, h.le⟩
theorem Dq.lt {p : Nat} {room : Sl} (h : Dq N w p room) : ∀ b ∈ dqB (p, room), N ≤ b ∧ b < w.heap.size := fun b hb => by
  obtain ⟨n, hx⟩ := h.box
  rcases List.mem_cons.1 hb with rfl | q
  · exact ⟨h.le, hx.lt⟩
  · exact h.own.blk b q
theorem Dq.ofDsk {p K : Nat} {room : Sl} {l : List Int} (h : Dsk N w p l K room) (hK : K ≤ 281474976710656) (hN : N ≤ p) : Dq N w p room :=
  ⟨⟨_, h.box⟩, ⟨_, h.sees, by have := h.le; simp [dmks_len]; omega⟩, h.own, h.off, hN⟩
theorem Rm.upd {m nn : List Nat} (h : Rm N w br L D n lc ds) (u : Upd m nn w w1) (hm : ∀ x ∈ rmB br L D ds, x ∉ m) : Rm N w1 br L D n lc ds :=
  have h1 : br ∉ m := hm br (rmB_mem.2 (.inl rfl))
  have h2 : ∀ b ∈ L.blk, b ∉ m := fun b hb => hm b (rmB_mem.2 (.inr (.inl hb)))
  have h3 : ∀ b ∈ D.blk, b ∉ m := fun b hb => hm b (rmB_mem.2 (.inr (.inr (.inl hb))))
  ⟨h.box.upd u h1, h.le, h.lrow.upd u h2, h.lown.upd u h2, h.llen, h.drow.upd u h3, h.down.upd u h3, h.dlen, fun d hd => (h.desk d hd).upd u (fun b hb => hm b (rmB_mem.2 (.inr (.inr (.inr ⟨d, hd, hb⟩))))), h.dis, h.base, h.offd⟩
theorem Rm.old {nn : List Nat} (h : Rm N w br L D n lc ds) (u : Upd [] nn w w1) : Rm N w1 br L D n lc ds := h.upd u (by simp)
theorem Rm.lt (h : Rm N w br L D n lc ds) : ∀ x ∈ rmB br L D ds, N ≤ x ∧ x < w.heap.size := fun x hx => by
  rcases rmB_mem.1 hx with rfl | q | q | ⟨d, hd, q⟩
  · exact ⟨h.le, h.box.lt⟩
  · exact h.lown.blk x q
  · exact h.down.blk x q
  · exact (h.desk d hd).lt x q
/-- a place of the list is written -/
theorem Rm.setL {i : Nat} {y : Int × Sl} {vs : List Value} {F : World → Prop} (h : Rm N w br L D n lc ds) (hi : i < lc.length) (hvs : vs = cOpt.enc y) (k : ∀ w1, Rm N w1 br L D n (lc.set i y) ds → Upd L.blk [] w w1 → F w1) : Store w (L.at 2 i) vs [] F := by
  refine own_set (c := cOpt) (i := i) (x := y) h.lrow h.lown (by decide) hi hvs (by simp) fun w1 h1 o1 u1 => ?_
  exact k w1 ⟨h.box.upd u1 h.base.1, h.le, h1, o1, by rw [List.length_set]; exact h.llen, h.drow.upd u1 (fun b hb hm => h.base.2.2 b hm hb), h.down.upd u1 (fun b hb hm => h.base.2.2 b hm hb), h.dlen, fun d hd => (h.desk d hd).upd u1 (fun b hb => (h.offd d hd b hb).2.1), h.dis, h.base, h.offd⟩ u1
/-- bytes are lent on a desk -/
theorem Rm.lend {i : Nat} {b : Sl} {l : List Int} (h : Rm N w br L D n lc ds) (hi : i < ds.length) (hb : SeesB w b l) (hl : l.length ≤ 140737488351232) (hB : ∀ x ∈ b.blk, x < w.heap.size ∧ x ∉ rmB br L D ds)
    (k : ∀ room' K w1, Upd (dqB ds[i]) [] w w1 → Rm N w1 br L D n lc (ds.set i (ds[i].1, room')) → Dsk N w1 ds[i].1 l K room' → K ≤ 281474976710656 → (∀ x ∈ room'.blk, w.heap.size ≤ x ∨ x ∈ ds[i].2.blk) → R (.slice (room'.sub 1 0 (Int.toNat (b.len : Int)) room'.cap)) w1) :
    Ret Tryd.prog 43 [.ptr (some ⟨ds[i].1, 0, none⟩), .slice b] w R := by
  have mem := List.getElem_mem hi
  obtain ⟨n', hx⟩ := (h.desk _ mem).box
  obtain ⟨L', hL, hLl⟩ := (h.desk _ mem).sees
  have hlt := (h.desk _ mem).lt
  have hbl := h.box.lt
  have hle := h.le
  have inB : ∀ x ∈ dqB ds[i], x ∈ rmB br L D ds := fun x hx => rmB_mem.2 (.inr (.inr (.inr ⟨_, mem, hx⟩)))
  refine c43D (N := N) hx hL (h.desk _ mem).own (h.desk _ mem).off hLl (by omega) hb hl (fun x hx => ⟨(hB x hx).1, fun hm => (hB x hx).2 (inB x (by simp [dqB, hm])), fun e => (hB x hx).2 (inB x (by simp [dqB, e]))⟩) fun room' K w1 ms u hms hd hK hn => ?_
  have u' : Upd (dqB ds[i]) [] w w1 := u.wide (fun x hx => by
    rcases hms x hx with q | q
    · simp [dqB, q]
    · simp [dqB, q])
  have nw : ∀ x ∈ dqB (ds[i].1, room'), x ∈ dqB ds[i] ∨ w.heap.size ≤ x := fun x hx => by
    rcases List.mem_cons.1 hx with e | q
    · exact .inl (by simp [dqB, e])
    · rcases hn x q with q | q
      · exact .inr q
      · exact .inl (by simp [dqB, q])
  have od := h.offd _ mem
  refine k room' K w1 u' ⟨h.box.upd u' (fun hm => (od _ hm).1 rfl), h.le, h.lrow.upd u' (fun b hb hm => (od b hm).2.1 hb), h.lown.upd u' (fun b hb hm => (od b hm).2.1 hb), h.llen, ?_, h.down.upd u' (fun b hb hm => (od b hm).2.2 hb), by rw [List.length_set]; exact h.dlen, fun d hd2 => ?_, fun a c ha hc hne x hxa hxc => ?_, h.base, fun d hd2 x hx => ?_⟩ hd hK hn
  · have e : (ds.set i (ds[i].1, room')).map Prod.fst = ds.map Prod.fst := by
      apply List.ext_getElem
      · simp
      · intro j h1 h2
        simp only [List.getElem_map, List.getElem_set]
        split
        · rename_i e; subst e; rfl
        · rfl
    rw [e]
    exact h.drow.upd u' (fun b hb hm => (od b hm).2.2 hb)
  · obtain ⟨j, hj, rfl⟩ := List.getElem_of_mem hd2
    rw [List.length_set] at hj
    by_cases e : i = j
    · subst e
      rw [List.getElem_set_self]
      exact Dq.ofDsk hd hK (h.desk _ mem).le
    · rw [List.getElem_set_ne e]
      exact (h.desk _ (List.getElem_mem hj)).upd u' (h.dis j i hj hi (fun e' => e e'.symm))
  · rw [List.length_set] at ha hc
    by_cases ea : i = a
    · subst ea
      rw [List.getElem_set_self] at hxa
      rw [List.getElem_set_ne hne] at hxc
      rcases nw x hxa with q | q
      · exact h.dis i c ha hc hne x q hxc
      · have := (h.desk _ (List.getElem_mem hc)).lt x hxc; omega
    · rw [List.getElem_set_ne ea] at hxa
      by_cases ec : i = c
      · subst ec
        rw [List.getElem_set_self] at hxc
        rcases nw x hxc with q | q
        · exact h.dis a i ha hc hne x hxa q
        · have := (h.desk _ (List.getElem_mem ha)).lt x hxa; omega
      · rw [List.getElem_set_ne ec] at hxc
        exact h.dis a c ha hc hne x hxa hxc
  · obtain ⟨j, hj, rfl⟩ := List.getElem_of_mem hd2
    rw [List.length_set] at hj
    by_cases e : i = j
    · subst e
      rw [List.getElem_set_self] at hx
      rcases nw x hx with q | q
      · exact od x q
      · have a1 := h.box.lt
        refine ⟨by omega, fun hm => ?_, fun hm => ?_⟩
        · have := (h.lown.blk x hm).2; omega
        · have := (h.down.blk x hm).2; omega
    · rw [List.getElem_set_ne e] at hx
      exact h.offd _ (List.getElem_mem hj) x hx
end
end Go.Vc.S9
end

section
open Go Go.Vc Go.Proofs
set_option linter.unusedVariables false
set_option linter.unusedSimpArgs false
set_option autoImplicit false
namespace Go.Vc.S9
section
variable {N br : Nat} {w w1 : World} {L D : Sl} {n : Int} {lc : List (Int × Sl)} {ds : List (Nat × Sl)} {R : SV → World → Prop}
/-- one desk more -/
theorem Rm.more {F : World → Prop} (h : Rm N w br L D n lc ds) (hd : ds.length < 4398046511000) (k : ∀ D' b w1, Upd (br :: D.blk) [] w w1 → Rm N w1 br L D' n lc (ds ++ [(b, ⟨none, 0, 0⟩)]) → (∀ x ∈ D'.blk, x ∈ D.blk ∨ w.heap.size ≤ x) → w.heap.size ≤ b → F w1) :
    ∀ (b : Nat) (w1 : World), Upd [] [b] w w1 → (World.heap w1)[b]? = some (Obj.cells { toList := SV.cells (SV.struct [SV.slice ⟨none, 0, 0⟩, SV.int .i64 0]) } 76) → ∀ (b1 : Nat) (w2 : World), Upd [] [b1] w1 w2 → (World.heap w2)[b1]? = some (Obj.cells { toList := SV.cells (SV.ptr (some ⟨b, 0, none⟩)) } 74) →
      Append 74 1 8 D ⟨some ⟨b1, 0, none⟩, 1, 1⟩ [] w2 fun r w3 => Store w3 ((⟨br, 0, none⟩ : Addr).add 2) (SV.cells (SV.slice r)) [] fun w4 => F w4 := by
  intro b w1 u1 hr1 b1 w2 u2 hr2
  have nb := u1.new (b := b) (by simp)
  have z1 := u1.size; have z2 := u2.size
  have hx : Bx w1 b [.sl ⟨none, 0, 0⟩, .int 0] := Bx.mk' hr1 rfl
  have h2 := (h.old u1).old u2
  have hN := h.le; have hbr := h.box.lt
  have lt := h.lt
  refine append_own (c := cPt) (new := [b]) h2.drow h2.down (sees_row hr2 [b] rfl rfl) (by omega) (by simp) (by decide) (by simp; omega) fun D' w3 hD oD u3 hn => ?_
  have z3 := u3.size
  have hx3 : Bx w3 br [.sl L, .int n, .sl D] := h2.box.upd u3 h.base.2.1
  refine hx3.set (y := .sl D') 2 (show 2 < 3 by decide) rfl (by simp) fun w4 hx4 u4 => ?_
  have q3 : ∀ x, x ≠ br → x ∉ D.blk → x ∉ D.blk ∧ x ∉ [br] := fun x h1 h2 => ⟨h2, by simpa using h1⟩
  have DN : ∀ x ∈ D'.blk, x ∈ D.blk ∨ w2.heap.size ≤ x := hn
  have Lb : ∀ x ∈ L.blk, x ∉ D.blk ∧ x ∉ [br] := fun x hx => ⟨h.base.2.2 x hx, fun hm => by simp at hm; exact h.base.1 (hm ▸ hx)⟩
  have brD : br ∉ D'.blk := fun hm => by
    rcases DN br hm with q | q
    · exact h.base.2.1 q
    · omega
  have Db : ∀ x ∈ D'.blk, x ∉ [br] := fun x hx hm => by simp at hm; exact brD (hm ▸ hx)
  have bD : b ∉ D.blk ∧ b ∉ [br] := ⟨fun hm => by have := lt b (rmB_mem.2 (.inr (.inr (.inl hm)))); omega, by simp; omega⟩
  have one : dqB (b, (⟨none, 0, 0⟩ : Sl)) = [b] := by simp [dqB, Sl.blk]
  have dlt : ∀ d ∈ ds, ∀ x ∈ dqB d, x < w.heap.size := fun d hd x hx => ((h.desk d hd).lt x hx).2
  refine k D' b w4 ?_ ⟨hx4, h.le, (h2.lrow.upd u3 (fun x hx => (Lb x hx).1)).upd u4 (fun x hx => (Lb x hx).2), (h2.lown.upd u3 (fun x hx => (Lb x hx).1)).upd u4 (fun x hx => (Lb x hx).2), h.llen, ?_, oD.upd u4 Db, by simp; omega, fun d hd => ?_, fun i j hi hj hne x hxi hxj => ?_, ⟨h.base.1, brD, fun x hx hm => ?_⟩, fun d hd x hx => ?_⟩ (fun x hx => by
      rcases DN x hx with q | q
      · exact .inl q
      · exact .inr (by omega)) nb.1
  · exact ((((u1.wide (m' := br :: D.blk) (by simp)).step u2 (by simp)).step u3 (fun x hx => .inr (by simp [hx]))).step u4 (fun x hx => .inr (by simp at hx; simp [hx])))
  · rw [List.map_append]
    exact hD.upd u4 Db
  · rcases List.mem_append.1 hd with q | q
    · refine ((h2.desk d q).upd u3 (fun x hx => ((h.offd d q x hx).2.2))).upd u4 (fun x hx hm => ?_)
      simp at hm
      exact (h.offd d q x hx).1 hm
    · rw [List.mem_singleton] at q
      subst q
      have hb4 := ((hx.old u2).upd u3 bD.1).upd u4 bD.2
      exact ⟨⟨0, hb4⟩, ⟨[], Sees.nil _ _ _ _, by simp⟩, Own.none _ _ _, by simp [Sl.blk], by dsimp only; omega⟩
  · by_cases ei : i < ds.length
    · rw [List.getElem_append_left ei] at hxi
      by_cases ej : j < ds.length
      · rw [List.getElem_append_left ej] at hxj
        exact h.dis i j ei ej hne x hxi hxj
      · have e : j = ds.length := by simp at hj; omega
        subst e
        simp [one] at hxj
        have := dlt _ (List.getElem_mem ei) x hxi
        omega
    · have e : i = ds.length := by simp at hi; omega
      subst e
      simp [one] at hxi
      have ej : j < ds.length := by simp at hj; omega
      rw [List.getElem_append_left ej] at hxj
      have := dlt _ (List.getElem_mem ej) x hxj
      omega
  · rcases DN x hm with q | q
    · exact h.base.2.2 x hx q
    · have := (h.lown.blk x hx).2; omega
  · rcases List.mem_append.1 hd with q | q
    · have o := h.offd d q x hx
      refine ⟨o.1, o.2.1, fun hm => ?_⟩
      rcases DN x hm with r | r
      · exact o.2.2 r
      · have := dlt d q x hx; omega
    · rw [List.mem_singleton] at q
      subst q
      rw [one, List.mem_singleton] at hx
      subst hx
      refine ⟨by omega, fun hm => by have := (h.lown.blk x hm).2; omega, fun hm => ?_⟩
      rcases DN x hm with r | r
      · exact bD.1 r
      · have := u2.new (b := b1) (by simp)
        omega
/-- the mark at a place of the list -/
def rmk (j : Nat) : Int × Sl := (wr .i64 (-500 - (j : Int)), ⟨none, 0, 0⟩)
def Marks (lc : List (Int × Sl)) (q p : Nat) : Prop := ∀ j (h : j < lc.length), q ≤ j → j < p → lc[j] = rmk j
def LentAt (N : Nat) (w : World) (l : List Opt) (lc : List (Int × Sl)) (ds : List (Nat × Sl)) (q : Nat) : Prop :=
  ∀ j (h1 : j < l.length) (h2 : j < ds.length) (h3 : j < lc.length), j < q → lc[j] = (l[j].kind, ds[j].2.sub 1 0 l[j].data.length ds[j].2.cap) ∧ ∃ K, Dsk N w ds[j].1 l[j].data K ds[j].2 ∧ K ≤ 281474976710656
theorem LentAt.upd {m nn : List Nat} {l : List Opt} {q : Nat} (h : LentAt N w l lc ds q) (u : Upd m nn w w1) (hm : ∀ d ∈ ds, ∀ x ∈ dqB d, x ∉ m) : LentAt N w1 l lc ds q := fun j h1 h2 h3 hj => by
  obtain ⟨a, K, b, c⟩ := h j h1 h2 h3 hj
  have hd := hm _ (List.getElem_mem h2)
  exact ⟨a, K, b.upd u (hd _ (by simp [dqB])) (fun x hx => hd x (by simp [dqB, hx])), c⟩
/-- rooms, in whatever state -/
def RmAt (N : Nat) (w : World) (br : Nat) (hd : List Nat) : Prop := ∃ L D n lc ds, Rm N w br L D n lc ds ∧ hd = rmB br L D ds
/-- rooms with options laid in them -/
def Laid (N : Nat) (w : World) (br : Nat) (l : List Opt) (hd : List Nat) (r : Sl) (os : List (Int × Sl)) : Prop :=
  ∃ L D lc ds, Rm N w br L D (l.length : Int) lc ds ∧ hd = rmB br L D ds ∧ l.length ≤ ds.length ∧ l.length ≤ lc.length ∧ LentAt N w l lc ds l.length ∧ Marks lc l.length lc.length ∧ r = Sl.sub L 2 0 l.length L.cap ∧ os = lc.take l.length
end
end Go.Vc.S9
end

section
open Go Go.Vc Go.Proofs
set_option linter.unusedVariables false
set_option linter.unusedSimpArgs false
set_option autoImplicit false
namespace Go.Vc.S9
section
variable {N br : Nat} {w w1 : World} {R : SV → World → Prop}
theorem zerosO (k : Nat) : zerosOf (.struct false [.int .i64, .slice 5]) k = cOpt.cells (List.replicate k (0, ⟨none, 0, 0⟩)) := by
  unfold zerosOf
  induction k with
  | zero => rfl
  | succ m ih => rw [List.replicate_succ, List.flatten_cons, ih, List.replicate_succ, cOpt.cells_cons]; rfl
set_option maxRecDepth 20000 in
/-- options laid -/
theorem c53 {hd : List Nat} {s : Sl} {l : List Opt} {os : List (Int × Sl)} (hR : RmAt N w br hd) (h : Opts w s l os) (hB : ∀ x, (x ∈ s.blk ∨ ∃ y ∈ os, x ∈ y.2.blk) → x < w.heap.size ∧ x ∉ hd) (hl : l.length ≤ 4398046511000) (hol : ∀ o ∈ l, o.data.length ≤ 140737488351232)
    (k : ∀ r os' hd' w1, Upd hd [] w w1 → Laid N w1 br l hd' r os' → (∀ x ∈ hd', x ∈ hd ∨ w.heap.size ≤ x) → R (.slice r) w1) : Ret Tryd.prog 53 [.ptr (some ⟨br, 0, none⟩), .slice s] w R := by
  obtain ⟨L, D, n, lc, ds, hM, rfl⟩ := hR
  refine f53_of _ _ _ _ ?_
  unfold vc53
  dsimp only [deref]
  have hsl := h.slen
  intro J hJ
  have h0 : ∀ {w' : World} {L' D' : Sl} {n' : Int} {lc' : List (Int × Sl)} {ds' : List (Nat × Sl)}, Rm N w' br L' D' n' lc' ds' → w'.cell? ⟨br, 0, none⟩ = some L'.val := fun h => by have := h.box.sl 0 _ rfl; rwa [add_zero] at this
  have main : ∀ L1 lc1 w1, Rm N w1 br L1 D n lc1 ds → 2 * l.length + 9 ≤ lc1.length → Upd (rmB br L D ds) [] w w1 → (∀ x ∈ rmB br L1 D ds, x ∈ rmB br L D ds ∨ w.heap.size ≤ x) → J w1 := by
    intro L1 lc1 w1 h1 hbig u1 nw
    refine hJ _ ?_
    clear hJ
    have hl1 := h1.llen
    refine ⟨fun i w' => ∃ (t : Nat) (lc' : List (Int × Sl)), i = t ∧ t ≤ lc1.length ∧ Rm N w' br L1 D n lc' ds ∧ lc'.length = lc1.length ∧ Upd L1.blk [] w1 w' ∧ Marks lc' 0 t, fun i _ => (lc1.length - i).toNat, ⟨0, lc1, rfl, by omega, h1, rfl, (Upd.refl w1).wide (by simp), fun j _ _ hj => by omega⟩, ?_⟩
    rintro i w2 ⟨t, lc2, rfl, ht, h2, hl2, u2, m2⟩
    have hL := h2.lrow.len
    refine ⟨L1, h0 h2, brd (fun hlt => ⟨L1, h0 h2, needIx (by omega) (by omega) (h2.lrow.isSome (by decide) (by omega)) ?_⟩) (fun hge => ?_)⟩
    · rw [Int.toNat_natCast]
      refine h2.setL (i := t) (y := rmk t) (by omega) rfl fun w3 h3 u3 => ⟨⟨t + 1, _, wr_succ (by omega), by omega, h3, by simp [hl2], u2.step u3 (fun x hx => .inr hx), ?_⟩, by rw [wr_succ (by omega)]; (try dsimp only); omega⟩
      intro j hj _ hjt
      rw [List.getElem_set]
      split
      · rename_i e; rw [e]
      · exact m2 j (by simpa using hj) (by omega) (by omega)
    have htl : t = lc1.length := by omega
    subst htl
    have U2 : Upd (rmB br L D ds) [] w w2 := u1.step u2 (fun x hx => (nw x (rmB_mem.2 (.inr (.inl hx)))).symm)
    clear hge ht
    refine ⟨fun i w' => ∃ (q : Nat) (lc' : List (Int × Sl)) (D' : Sl) (ds' : List (Nat × Sl)), i = q ∧ q ≤ l.length ∧ q ≤ ds'.length ∧ Rm N w' br L1 D' n lc' ds' ∧ lc'.length = lc1.length ∧ Upd (rmB br L D ds) [] w w' ∧ (∀ x ∈ rmB br L1 D' ds', x ∈ rmB br L D ds ∨ w.heap.size ≤ x) ∧ Marks lc' q lc'.length ∧ LentAt N w' l lc' ds' q, fun i _ => (l.length - i).toNat, ⟨0, lc2, D, ds, rfl, by omega, by omega, h2, hl2, U2, nw, by rw [hl2]; exact m2, fun j _ _ _ hj => by omega⟩, ?_⟩
    rintro i w3 ⟨q, lc3, D3, ds3, rfl, hq, hqd, h3, hl3, U3, nw3, m3, le3⟩
    have z3 := U3.size
    have hdl3 := h3.dlen
    refine brd (fun hlt => ?_) (fun hge => ?_)
    · have hq2 : q < l.length := by omega
      intro J1 hJ1 J2 hJ2
      have step : ∀ D4 ds4 w4, Rm N w4 br L1 D4 n lc3 ds4 → q < ds4.length → Upd (rmB br L D ds) [] w w4 → (∀ x ∈ rmB br L1 D4 ds4, x ∈ rmB br L D ds ∨ w.heap.size ≤ x) → LentAt N w4 l lc3 ds4 q → J2 w4 := by
        intro D4 ds4 w4 h4 hqd4 U4 nw4 le4
        refine hJ2 _ ?_
        clear hJ2
        have z4 := U4.size
        have hS : Opts w4 s l os := h.upd U4 (fun x hx => (hB x (.inl hx)).2) (fun y hy x hx => (hB x (.inr ⟨y, hy, hx⟩)).2)
        obtain ⟨g1, g2, g3, g4⟩ := hS.get q hq2
        have hL4 := h4.lrow.len
        have cD : w4.cell? ((⟨br, 0, none⟩ : Addr).add 2) = some D4.val := h4.box.sl 2 D4 rfl
        have hD4 := h4.drow.len
        rw [List.length_map] at hD4
        have pd : w4.cell? (D4.at 1 q) = some (.pointer (some ⟨ds4[q].1, 0, none⟩)) := by
          have := h4.drow.elem (i := q) (by simpa using hqd4) 0 (by simp [cPt])
          rw [add_zero] at this
          simpa [cPt] using this
        have pD := h4.drow.isSome (by decide) (by rw [List.length_map]; omega)
        have pL := h4.lrow.isSome (by decide) (by omega)
        have mem := List.getElem_mem hqd4
        have inD : ∀ x ∈ dqB ds4[q], x ∈ rmB br L1 D4 ds4 := fun x hx => rmB_mem.2 (.inr (.inr (.inr ⟨_, mem, hx⟩)))
        have out : ∀ x, (x ∈ s.blk ∨ ∃ y ∈ os, x ∈ y.2.blk) → x ∉ rmB br L1 D4 ds4 := fun x hx hm => by
          rcases nw4 x hm with r | r
          · exact (hB x hx).2 r
          · have := (hB x hx).1; omega
        have lt4 := h4.lt
        rw [Int.toNat_natCast]
        refine ⟨br :: (s.blk ++ D4.blk), fun x hx => ?_, by simp, L1, h0 h4, needIx (by omega) (by omega) g4 ⟨List.mem_cons_of_mem _ (List.mem_append_left _ (at_blk g4 _ _)), _, g1, by simp [add_block], D4, cD, needIx (by omega) (by omega) pD ⟨by simp [at_blk pD], _, pd, needIx (by omega) (by omega) g4 ⟨List.mem_cons_of_mem _ (List.mem_append_left _ (at_blk1 g4 _ _ _)), _, g2, fun w5 u5 => ?_⟩⟩⟩⟩
        · have hx : x ∈ br :: (s.blk ++ D4.blk) := hx
          have : x < w4.heap.size := by
            rcases List.mem_cons.1 hx with e | e
            · exact (lt4 x (rmB_mem.2 (.inl e))).2
            · rcases List.mem_append.1 e with e | e
              · have := (hB x (.inl e)).1; omega
              · exact (lt4 x (rmB_mem.2 (.inr (.inr (.inl e))))).2
          exact this
        have z5 := u5.size
        refine (h4.old u5).lend hqd4 (g3.old u5) (by have := hol _ (List.getElem_mem hq2); omega) (fun x hx => ?_) fun room' K w6 u6 h6 hd6 hK hn6 => ⟨_, rfl, fun x hx => ?_, needIx (by omega) (by omega) pL ?_⟩
        · have hos : x ∈ s.blk ∨ ∃ y ∈ os, x ∈ y.2.blk := .inr ⟨_, List.getElem_mem (by rw [h.len]; exact hq2), hx⟩
          exact ⟨by have := (hB x hos).1; omega, out x hos⟩
        · have u46 : Upd (dqB ds4[q]) [] w4 w6 := (u5.wide (m' := dqB ds4[q]) (by simp)).step u6 (fun x hx => .inr hx)
          have o := h4.offd _ mem
          refine u46.keep x ?_ (fun hm => ?_)
          · rcases List.mem_cons.1 hx with e | e
            · exact (lt4 x (rmB_mem.2 (.inl e))).2
            · rcases List.mem_append.1 e with e | e
              · have := (hB x (.inl e)).1; omega
              · exact (lt4 x (rmB_mem.2 (.inr (.inr (.inl e))))).2
          · rcases List.mem_cons.1 hx with e | e
            · exact (o x hm).1 e
            · rcases List.mem_append.1 e with e | e
              · exact out x (.inl e) (inD x hm)
              · exact (o x hm).2.2 e
        have hg3 := g3.len
        have el : Int.toNat (((os[q]'(by rw [h.len]; exact hq2)).2.len : Nat) : Int) = l[q].data.length := by rw [Int.toNat_natCast]; exact hg3
        rw [el]
        refine h6.setL (i := q) (y := (l[q].kind, room'.sub 1 0 l[q].data.length room'.cap)) (by omega) rfl fun w7 h7 u7 => hJ1 _ ?_
        have z6 := u6.size
        have o6 := h6.offd
        refine ⟨⟨q + 1, _, D4, _, wr_succ (by omega), by omega, by rw [List.length_set]; omega, h7, by rw [List.length_set]; exact hl3, ((U4.step u5 (by simp)).step u6 (fun x hx => (nw4 x (inD x hx)).symm)).step u7 (fun x hx => (nw4 x (rmB_mem.2 (.inr (.inl hx)))).symm), fun x hx => ?_, fun j hj h1j h2j => ?_, fun j j1 j2 j3 j4 => ?_⟩, by rw [wr_succ (by omega)]; (try dsimp only); omega⟩
        · rcases rmB_mem.1 hx with e | e | e | ⟨d, hd, e⟩
          · exact nw4 x (rmB_mem.2 (.inl e))
          · exact nw4 x (rmB_mem.2 (.inr (.inl e)))
          · exact nw4 x (rmB_mem.2 (.inr (.inr (.inl e))))
          · rcases List.mem_or_eq_of_mem_set hd with hd | hd
            · exact nw4 x (rmB_mem.2 (.inr (.inr (.inr ⟨d, hd, e⟩))))
            · subst hd
              rcases List.mem_cons.1 e with e | e
              · exact nw4 x (inD x (by simp [dqB, e]))
              · rcases hn6 x e with e | e
                · exact .inr (by omega)
                · exact nw4 x (inD x (by simp [dqB, e]))
        · rw [List.length_set] at hj h2j
          rw [List.getElem_set_ne (by omega)]
          exact m3 j hj (by omega) h2j
        · rw [List.length_set] at j2 j3
          by_cases e : q = j
          · subst e
            simp only [List.getElem_set_self]
            have o := o6 _ (List.mem_iff_getElem.2 ⟨q, by rw [List.length_set]; exact hqd4, by simp⟩ : (ds4[q].1, room') ∈ ds4.set q (ds4[q].1, room'))
            exact ⟨trivial, K, hd6.upd u7 (fun hm => (o _ (by simp [dqB])).2.1 hm) (fun x hx hm => (o x (by simp [dqB, hx])).2.1 hm), hK⟩
          · simp only [List.getElem_set_ne e]
            obtain ⟨a1, K', a2, a3⟩ := le4 j j1 j2 j3 (by omega)
            have dj := h4.dis j q j2 hqd4 (fun e' => e e'.symm)
            have oj := h4.offd _ (List.getElem_mem j2)
            exact ⟨a1, K', ((a2.old u5).upd u6 (dj _ (by simp [dqB])) (fun x hx => dj x (by simp [dqB, hx]))).upd u7 (fun hm => (oj _ (by simp [dqB])).2.1 hm) (fun x hx hm => (oj x (by simp [dqB, hx])).2.1 hm), a3⟩
      clear hJ2
      have cD : w3.cell? ((⟨br, 0, none⟩ : Addr).add 2) = some D3.val := h3.box.sl 2 D3 rfl
      have hD3 := h3.drow.len
      rw [List.length_map] at hD3
      refine ⟨D3, cD, brd (fun hle => ⟨D3, cD, ?_⟩) (fun hgt => step D3 ds3 w3 h3 (by omega) U3 nw3 le3)⟩
      refine h3.more (by omega) fun D4 b w4 u4 h4 hn4 hb4 => ?_
      have o3 := h3.offd
      refine step D4 _ w4 h4 (by simp; omega) (U3.step u4 (fun x hx => ?_)) (fun x hx => ?_) (fun j j1 j2 j3 j4 => ?_)
      · refine (nw3 x ?_).symm
        rcases List.mem_cons.1 hx with e | e
        · exact rmB_mem.2 (.inl e)
        · exact rmB_mem.2 (.inr (.inr (.inl e)))
      · rcases rmB_mem.1 hx with e | e | e | ⟨d, hd, e⟩
        · exact nw3 x (rmB_mem.2 (.inl e))
        · exact nw3 x (rmB_mem.2 (.inr (.inl e)))
        · rcases hn4 x e with e | e
          · exact nw3 x (rmB_mem.2 (.inr (.inr (.inl e))))
          · exact .inr (by omega)
        · rcases List.mem_append.1 hd with hd | hd
          · exact nw3 x (rmB_mem.2 (.inr (.inr (.inr ⟨d, hd, e⟩))))
          · rw [List.mem_singleton] at hd
            subst hd
            simp [dqB, Sl.blk] at e
            exact .inr (by omega)
      · have j2' : j < ds3.length := by omega
        rw [List.getElem_append_left j2']
        obtain ⟨a1, K', a2, a3⟩ := le3 j j1 j2' j3 j4
        have oj := o3 _ (List.getElem_mem j2')
        refine ⟨a1, K', a2.upd u4 (fun hm => ?_) (fun x hx hm => ?_), a3⟩
        · rcases List.mem_cons.1 hm with e | e
          · exact (oj _ (by simp [dqB])).1 e
          · exact (oj _ (by simp [dqB])).2.2 e
        · rcases List.mem_cons.1 hm with e | e
          · exact (oj x (by simp [dqB, hx])).1 e
          · exact (oj x (by simp [dqB, hx])).2.2 e
    · have hql : q = l.length := by omega
      subst hql
      have b3 := h3.base
      refine h3.box.set (y := .int (s.len : Int)) 1 (show 1 < 3 by decide) rfl (by simp) fun w4 hx4 u4 => ?_
      have nb : ∀ x, x ≠ br → x ∉ [br] := fun x hx hm => hx (by simpa using hm)
      have o3 := h3.offd
      have h4 : Rm N w4 br L1 D3 (l.length : Int) lc3 ds3 := ⟨by rw [hsl] at hx4; exact hx4, h3.le, h3.lrow.upd u4 (fun x hx => nb x (fun e => b3.1 (e ▸ hx))), h3.lown.upd u4 (fun x hx => nb x (fun e => b3.1 (e ▸ hx))), h3.llen, h3.drow.upd u4 (fun x hx => nb x (fun e => b3.2.1 (e ▸ hx))), h3.down.upd u4 (fun x hx => nb x (fun e => b3.2.1 (e ▸ hx))), h3.dlen, fun d hd => (h3.desk d hd).upd u4 (fun x hx => nb x (o3 d hd x hx).1), h3.dis, h3.base, h3.offd⟩
      have hL4 := h4.lrow.len
      have hLc := h4.lown.le
      refine ⟨L1, h0 h4, need (by simp; omega) ?_⟩
      rw [hsl, Int.toNat_natCast]
      exact k _ _ _ w4 (U3.step u4 (fun x hx => (nw3 x (rmB_mem.2 (.inl (by simpa using hx)))).symm)) ⟨L1, D3, lc3, ds3, h4, rfl, by omega, by omega, le3.upd u4 (fun d hd x hx => nb x (o3 d hd x hx).1), m3, rfl, rfl⟩ nw3
  clear hJ
  have hLl := hM.lrow.len
  have hlM := hM.llen
  have e1 : wr .i64 (wr .i64 (2 * (s.len : Int)) + 9) = (2 * l.length + 9 : Nat) := by rw [wr_i64 (x := 2 * (s.len : Int)) (by omega) (by omega), wr_i64 (by omega) (by omega)]; omega
  have e2 : wr .i64 (wr .i64 (2 * (s.len : Int)) + 20) = (2 * l.length + 20 : Nat) := by rw [wr_i64 (x := 2 * (s.len : Int)) (by omega) (by omega), wr_i64 (by omega) (by omega)]; omega
  refine ⟨L, h0 hM, ?_⟩
  rw [e1, e2]
  refine brd (fun hlt => need (by simp only [Bool.and_eq_true, decide_eq_true_eq]; omega) ?_) (fun hge => main L lc w hM (by omega) ((Upd.refl w).wide (by simp)) (fun x hx => .inl hx))
  intro b1 w1 u1 hr1
  rw [Int.toNat_natCast] at hr1 ⊢
  have n1 := u1.new (b := b1) (by simp)
  have hbr := hM.box.lt
  have hbN := hM.le
  rw [zerosO] at hr1
  have hs1 : Sees cOpt w1 ⟨some ⟨b1, 0, none⟩, 2 * l.length + 20, 2 * l.length + 20⟩ (List.replicate (2 * l.length + 20) (0, ⟨none, 0, 0⟩)) := sees_row hr1 _ rfl (by simp)
  have ho1 : Own N 2 w1 ⟨some ⟨b1, 0, none⟩, 2 * l.length + 20, 2 * l.length + 20⟩ := own_row hr1 (by omega) (by rw [cOpt.cells_length]; simp [cOpt]) (Nat.le_refl _)
  have h1 := hM.old u1
  refine bx_set0 (y := .sl ⟨some ⟨b1, 0, none⟩, 2 * l.length + 20, 2 * l.length + 20⟩) h1.box (show 0 < 3 by decide) rfl (by simp) fun w2 hx2 u2 => ?_
  have lt := hM.lt
  have nb : ∀ x, x ≠ br → x ∉ [br] := fun x hx hm => hx (by simpa using hm)
  have bb : ∀ x ∈ Sl.blk ⟨some ⟨b1, 0, none⟩, 2 * l.length + 20, 2 * l.length + 20⟩, x = b1 := fun x hx => by simpa [Sl.blk] using hx
  have oM := hM.offd
  refine main ⟨some ⟨b1, 0, none⟩, 2 * l.length + 20, 2 * l.length + 20⟩ _ w2 ⟨hx2, hM.le, hs1.upd u2 (fun x hx => nb x (by have := bb x hx; omega)), ho1.upd u2 (fun x hx => nb x (by have := bb x hx; omega)), by simp; omega, h1.drow.upd u2 (fun x hx => nb x (fun e => hM.base.2.1 (e ▸ hx))), h1.down.upd u2 (fun x hx => nb x (fun e => hM.base.2.1 (e ▸ hx))), hM.dlen, fun d hd => (h1.desk d hd).upd u2 (fun x hx => nb x (oM d hd x hx).1), hM.dis, ⟨fun hm => by have := bb _ hm; omega, hM.base.2.1, fun x hx hm => by have := bb x hx; have := (hM.down.blk x hm).2; omega⟩, fun d hd x hx => ⟨(oM d hd x hx).1, fun hm => by have := bb x hm; have := ((hM.desk d hd).lt x hx).2; omega, (oM d hd x hx).2.2⟩⟩ (by rw [List.length_replicate]; omega) ?_ (fun x hx => ?_)
  · exact (u1.wide (m' := rmB br L D ds) (by simp)).step u2 (fun x hx => .inr (rmB_mem.2 (.inl (by simpa using hx))))
  · rcases rmB_mem.1 hx with e | e | e | e
    · exact .inl (rmB_mem.2 (.inl e))
    · exact .inr (by have := bb x e; omega)
    · exact .inl (rmB_mem.2 (.inr (.inr (.inl e))))
    · exact .inl (rmB_mem.2 (.inr (.inr (.inr e))))
end
end Go.Vc.S9
end

section
open Go Go.Vc Go.Proofs
set_option linter.unusedVariables false
set_option linter.unusedSimpArgs false
set_option autoImplicit false
namespace Go.Vc.S9
section
variable {N br : Nat} {w w1 : World} {R : SV → World → Prop} {l : List Opt} {hd : List Nat} {r : Sl} {os' : List (Int × Sl)}
theorem Laid.opts (h : Laid N w br l hd r os') : Opts w r l os' ∧ r.len ≤ r.cap ∧ (∀ y ∈ os', y.2.len ≤ y.2.cap) ∧ (∀ x, (x ∈ r.blk ∨ ∃ y ∈ os', x ∈ y.2.blk) → x ∈ hd) := by
  obtain ⟨L, D, lc, ds, hM, rfl, h1, h2, hL, hm, rfl, rfl⟩ := h
  have hlr := hM.lrow.len
  have hlo := hM.lown.le
  have hr := hM.lrow.sub (lo := 0) (hi := l.length) (mx := L.cap) (by omega) (by omega) (by omega)
  rw [List.drop_zero] at hr
  have each : ∀ i (hi : i < l.length), (lc.take l.length)[i]'(by rw [List.length_take]; omega) = (l[i].kind, ds[i].2.sub 1 0 l[i].data.length ds[i].2.cap) ∧ ∃ K, Dsk N w ds[i].1 l[i].data K ds[i].2 ∧ K ≤ 281474976710656 := fun i hi => by
    rw [List.getElem_take]
    exact hL i hi (by omega) (by omega) hi
  refine ⟨⟨hr, by rw [List.length_take]; omega, fun i hi => ?_, fun i hi => ?_⟩, ?_, fun y hy => ?_, fun x hx => ?_⟩
  · rw [(each i hi).1]
  · obtain ⟨e, K, d, _⟩ := each i hi
    simp only [e]
    exact d.lent rfl
  · simp [Sl.sub]; omega
  · obtain ⟨i, hi, rfl⟩ := List.getElem_of_mem hy
    rw [List.length_take] at hi
    obtain ⟨e, K, d, _⟩ := each i (by omega)
    rw [e]
    have := d.own.le; have := d.len; have := d.le
    simp [Sl.sub]; omega
  · rcases hx with hx | ⟨y, hy, hx⟩
    · refine rmB_mem.2 (.inr (.inl ?_))
      simpa [Sl.blk, Sl.sub] using hx
    · obtain ⟨i, hi, rfl⟩ := List.getElem_of_mem hy
      rw [List.length_take] at hi
      obtain ⟨e, _⟩ := each i (by omega)
      rw [e] at hx
      refine rmB_mem.2 (.inr (.inr (.inr ⟨_, List.getElem_mem (show i < ds.length by omega), ?_⟩)))
      refine List.mem_cons_of_mem _ ?_
      simpa [Sl.blk, Sl.sub] using hx
theorem Laid.at (h : Laid N w br l hd r os') : RmAt N w br hd := by
  obtain ⟨L, D, lc, ds, hM, e, _⟩ := h
  exact ⟨L, D, _, lc, ds, hM, e⟩
theorem RmAt.lt (h : RmAt N w br hd) : br ∈ hd ∧ ∀ x ∈ hd, N ≤ x ∧ x < w.heap.size := by
  obtain ⟨L, D, n, lc, ds, hM, rfl⟩ := h
  exact ⟨rmB_mem.2 (.inl rfl), hM.lt⟩
theorem RmAt.upd {m nn : List Nat} (h : RmAt N w br hd) (u : Upd m nn w w1) (hm : ∀ x ∈ hd, x ∉ m) : RmAt N w1 br hd := by
  obtain ⟨L, D, n, lc, ds, hM, rfl⟩ := h
  exact ⟨L, D, n, lc, ds, hM.upd u hm, rfl⟩
theorem Laid.upd {m nn : List Nat} (h : Laid N w br l hd r os') (u : Upd m nn w w1) (hm : ∀ x ∈ hd, x ∉ m) : Laid N w1 br l hd r os' := by
  obtain ⟨L, D, lc, ds, hM, rfl, h1, h2, h3, h4, h5, h6⟩ := h
  exact ⟨L, D, lc, ds, hM.upd u hm, rfl, h1, h2, h3.upd u (fun d hd x hx => hm x (rmB_mem.2 (.inr (.inr (.inr ⟨d, hd, hx⟩))))), h4, h5, h6⟩
theorem RmAt.start {e : Nat} (hr : w.heap[br]? = some (.cells (SV.cells (SV.struct [SV.slice ⟨none, 0, 0⟩, SV.int .i64 0, SV.slice ⟨none, 0, 0⟩])).toArray e (0, 0))) (hN : N ≤ br) : RmAt N w br [br] :=
  ⟨⟨none, 0, 0⟩, ⟨none, 0, 0⟩, 0, [], [], ⟨Bx.mk' hr rfl, hN, Sees.nil _ _ _ _, Own.none _ _ _, by simp, Sees.nil _ _ _ _, Own.none _ _ _, by simp, by simp, fun i _ hi => by simp at hi, by simp [Sl.blk], by simp⟩, by simp [rmB, Sl.blk]⟩
set_option maxRecDepth 20000 in
/-- do they lie as they were laid? -/
theorem c62T {s : Sl} {os : List (Int × Sl)} (hR : Laid N w br l hd r os') (h : Opts w s l os) (hbo : ∀ o ∈ l, Byt o.data) (hl : l.length ≤ 4398046511000) (k : ∀ w1, Upd [] [] w w1 → R (.bool true) w1) :
    Ret Tryd.prog 62 [.ptr (some ⟨br, 0, none⟩), .slice s] w R := by
  have hop := hR.opts.1
  obtain ⟨L, D, lc, ds, hM, rfl, h1, h2, hLn, hm, rfl, rfl⟩ := hR
  refine f62_of _ _ _ _ ?_
  unfold vc62
  dsimp only [deref]
  have hsl := h.slen
  have h0 : ∀ {w' : World}, Upd [] [] w w' → w'.cell? ⟨br, 0, none⟩ = some L.val := fun u => by have := (hM.old u).box.sl 0 _ rfl; rwa [add_zero] at this
  have hlr := hM.lrow.len
  have hlo := hM.lown.le
  intro J hJ
  refine ⟨_, hM.box.int 1 _ rfl, bre' (fun hne => absurd (by rw [hsl]) hne) (fun _ => ⟨L, h0 (Upd.refl w), _, hM.box.int 1 _ rfl, need (by simp; omega) fun w1 u1 => ?_⟩)⟩
  rw [Int.toNat_natCast]
  refine c47 (hop.old u1) (h.old u1) hbo hbo (by omega) fun w2 u2 => ⟨_, rfl, brf (by simp) ?_⟩
  have v2 := u1.then u2
  refine hJ _ ?_
  clear hJ
  refine ⟨fun i w' => ∃ q : Nat, i = q ∧ q ≤ l.length ∧ Upd [] [] w w', fun i _ => (l.length - i).toNat, ⟨0, rfl, by omega, v2⟩, ?_⟩
  rintro i w3 ⟨q, rfl, hq, u3⟩
  refine brd (fun hlt => ?_) (fun hge => ?_)
  · have hq2 : q < l.length := by omega
    have h3 := hM.old u3
    obtain ⟨g1, g2, g3, g4⟩ := (h.old u3).get q hq2
    have hqd : q < ds.length := by omega
    have hD3 := h3.drow.len
    rw [List.length_map] at hD3
    have pd : w3.cell? (D.at 1 q) = some (.pointer (some ⟨ds[q].1, 0, none⟩)) := by
      have := h3.drow.elem (i := q) (by simpa using hqd) 0 (by simp [cPt])
      rw [add_zero] at this
      simpa [cPt] using this
    have pD := h3.drow.isSome (by decide) (by rw [List.length_map]; omega)
    obtain ⟨_, K, dk, hK⟩ := hLn q hq2 hqd (by omega) hq2
    rw [Int.toNat_natCast]
    refine ⟨D, h3.box.sl 2 D rfl, needIx (by omega) (by omega) pD ⟨_, pd, needIx (by omega) (by omega) g4 ⟨_, g2, fun w4 u4 => ?_⟩⟩⟩
    refine c48T ((dk.old u3).old u4) (g3.old u4) (hbo _ (List.getElem_mem hq2)) hK fun w5 u5 => ⟨_, rfl, brf rfl ?_⟩
    exact ⟨⟨q + 1, wr_succ (by omega), by omega, (u3.then u4).then u5⟩, by rw [wr_succ (by omega)]; (try dsimp only); omega⟩
  · rw [hsl]
    have hlM := hM.llen
    refine ⟨fun i w' => ∃ q : Nat, i = q ∧ l.length ≤ q ∧ q ≤ lc.length ∧ Upd [] [] w w', fun i _ => (lc.length - i).toNat, ⟨l.length, rfl, by omega, by omega, u3⟩, ?_⟩
    rintro i w4 ⟨q, rfl, hql, hq2, u4⟩
    refine ⟨L, h0 u4, brd (fun hlt => ?_) (fun _ => k w4 u4)⟩
    intro J1 hJ1
    have hq3 : q < lc.length := by omega
    have h4 := hM.old u4
    obtain ⟨a1, a2, a3⟩ := opC h4.lrow q hq3
    have e := hm q hq3 hql hq3
    rw [e] at a1 a2
    refine ⟨L, h0 u4, needIx (by omega) (by omega) a3 ⟨_, a1, brf (by simp [rmk]) ⟨L, h0 u4, needIx (by omega) (by omega) a3 ⟨_, a2, brf (by simp [rmk]) ?_⟩⟩⟩⟩
    exact hJ1 _ ⟨⟨q + 1, wr_succ (by omega), by omega, by omega, u4⟩, by rw [wr_succ (by omega)]; (try dsimp only); omega⟩
end
end Go.Vc.S9
end
