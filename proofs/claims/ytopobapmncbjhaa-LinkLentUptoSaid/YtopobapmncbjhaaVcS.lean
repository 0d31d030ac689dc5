import Derived.Test.YtopobapmncbjhaaVcR
namespace Go.Vc
open Go.RowKit (Below)
set_option linter.unusedSimpArgs false
set_option linter.unusedVariables false
set_option autoImplicit false

section
variable {X : Tab} (ok : TabOK X) {N : Nat} {ops : Array Oper} {Q : Exit → Act → World → Prop} {K : Option (List Nat)}

/-- what loads rely on: w0 and the local structs of s0 as they were -/
def Was0 (K : Option (List Nat)) (w0 w : World) : Prop := match K with | none => Upd [] [] w0 w | some bs => (∀ b, b ∈ bs → b < w0.heap.size) ∧ Kept bs w0 w
theorem Was0.trans {K : Option (List Nat)} {w0 w w1 : World} (h : Was0 K w0 w) (u : Upd [] [] w w1) : Was0 K w0 w1 := by
  cases K with
  | none => exact Upd.trans h u
  | some bs =>
    refine ⟨h.1, fun b hb => ?_⟩
    have h1 := h.2 b hb
    have h2 := h.1 b hb
    have h3 : b < w.heap.size := by
      rw [Array.getElem?_eq_getElem h2] at h1
      rcases Nat.lt_or_ge b w.heap.size with h4 | h4
      · exact h4
      · rw [Array.getElem?_eq_none h4] at h1; cases h1
    rw [u.keep b h3 (by simp), h1]
theorem Was0.cell {K : Option (List Nat)} {w0 w : World} {F : Prop} {ad : Addr} {j : Nat} {v : Value} (h : Was0 K w0 w) (hk : kin K ad.block F) (hv : w0.cell? (ad.add j) = some v) : w.cell? (ad.add j) = some v := by
  cases K with
  | none => exact Upd.cell h hv (by simp)
  | some bs =>
    have h1 := h.2 ad.block hk.1
    have hb : (ad.add j).block = ad.block := by cases ad; rename_i sp; cases sp <;> simp only [Addr.add] <;> split <;> rfl
    rw [← hv]
    unfold World.cell?
    rw [hb, h1]
theorem kin_F {K : Option (List Nat)} {b : Nat} {F : Prop} (h : kin K b F) : F := by cases K with | none => exact h | some bs => exact h.2
theorem knew_iff {K : Option (List Nat)} {w0 w : World} {F : Prop} (h : knew K w0 w F) (hb : Was0 K w0 w0) : Was0 K w0 w ∧ F := by
  cases K with
  | none => exact h
  | some bs => exact ⟨⟨hb.1, h.1⟩, h.2⟩
def Was (K : Option (List Nat)) (s0 : St) (w0 : World) (n0 : Nat) (w : World) : Prop :=
  Was0 K w0 w ∧ ∀ i b t c, i < n0 → s0.bx i = some (.box b t c) → w.heap[b]? = some (.cells c.cells.toArray t (0, 0))

include ok in
theorem cells_load {ad : Addr} {t : Nat} {wa : World} {x : SV} (h1 : x.shape (X.T t) = true) (hD : isData (X.T t) = true) (h3' : ∀ j u, x.cells[j]? = some u → wa.cell? (ad.add j) = some u) :
    (Instr.loadAt t (.pointer (some ad))).run X.P wa = .ok x.enc wa := by
  simp only [Instr.loadAt, Instr.sureAddr, loadVar, Sem.run_bind, Sem.run_pure, Result.andThen_ok, isAgg_run ok t hD, sizeOf_run ok t hD]
  cases hag : isAggTy (X.T t) with
  | true =>
    have hlc := run_loadCells_list (P := X.P) wa ad x.cells h3'
    rw [shape_size h1] at hlc
    simp only [if_true, Sem.run_bind, sizeOf_run ok t hD, Result.andThen_ok, hlc, Sem.run_pure]
    rw [enc_agg h1 hag]
  | false =>
    have hsc := enc_scalar h1 hag
    have := h3' 0 x.enc (by rw [hsc]; rfl)
    have h0 : ad.add 0 = ad := rfl
    rw [h0] at this
    simp [run_load, this]

theorem load_allStrict {i : Nat} {oi : Oper} (hi : ops[i]? = some oi) {listed : Array Bool} (hr : i ∈ Region.ready .any ops listed) (hd : Down ops listed) (hl : isLoad oi = true) : AllStrict X ops listed := by
  intro m hm
  cases hs : strictOp X ops m with
  | true => rfl
  | false =>
    exfalso
    have hun := unlisted hr
    have hne : i ≠ m := by rintro rfl; rw [hun] at hm; cases hm
    have := hd.anc (strict_anc hs hi hl hne) hm
    rw [hun] at this
    cases this

include ok in
theorem early_sound {s s0 : St} {w w0 wa : World} {a : Act} {o : Oper} {n0 : Nat} {F : SV → Prop} (h : earlyVC K X s w0 n0 o F) (hr : Rel X N s w a wa)
    (hsh : ∀ i b t c, s0.bx i = some (.box b t c) → c.shape (X.T t) = true) (hb : isLoad o = true → ∀ i, i < n0 → s.bx i = s0.bx i) :
    ∃ v sv, RelV X s v sv ∧ F sv ∧ LP s sv ∧ ∀ w', (isLoad o = true → Was K s0 w0 n0 w') → (execOp a.eval o).run X.P w' = .ok (.value v) w' := by
  by_cases hl : isLoad o = true
  · unfold isLoad at hl
    cases hop : o.op <;> simp only [hop] at hl <;> try (cases hl; done)
    rename_i t x
    have hl : isLoad o = true := by simp [isLoad, hop]
    unfold earlyVC at h
    simp only [hop] at h
    split at h
    · rename_i p e1
      have hxv := hr.ev x _ e1
      simp only [RelV, SV.enc] at hxv
      obtain ⟨ad, rfl, h1⟩ := deref_iff.1 h
      -- the value does not depend on the world
      have hkin := h1
      obtain ⟨v, h2, h3, h4⟩ := loadVC_cells (kin_F h1)
      refine ⟨v.enc, v, (relv_shape h2).2 rfl, h3, (fun id off p e => by subst e; simp [SV.shape] at h2), fun w' hw' => ?_⟩
      obtain ⟨hu, _⟩ := hw' hl
      have h7 := cells_load ok (wa := w') h2 (loadVC_data (kin_F h1)) (ad := ad) (fun j u hj => hu.cell hkin (by simpa using h4 j u hj))
      simp [execOp, hop, hxv, h7]
    · rename_i id off p e1
      split at h
      · rename_i hid
        have hid : id < n0 := by simpa using hid
        unfold pureVC at h
        simp only [hop] at h
        rw [e1] at h
        simp only at h
        split at h
        · rename_i hli
          have hxv := hr.ev x _ e1
          obtain ⟨b, bt, c, g1, g2, g3⟩ := lIs_path hxv hli
          have g0 := hb hl id hid
          rw [g1] at g0
          have k3 := hsh id b bt c g0.symm
          have hD : isData (X.T t) = true := by
            obtain ⟨y, hy, hys, _⟩ := path_get k3 g3
            cases hT : X.T t <;> rw [hT] at hys <;> first | rfl | (cases y <;> simp [SV.shape] at hys)
          obtain ⟨y, h6, h7, pre, post, h8, h9, _⟩ := path_get k3 g3
          have hF : F y := by
            rw [g1] at h
            obtain ⟨z, h4, h5⟩ := ifSome_iff.1 h
            rw [h6] at h4
            obtain rfl : y = z := by simpa using h4
            exact h5
          refine ⟨y.enc, y, (relv_shape h7).2 rfl, hF, (fun id off p e => by subst e; simp [SV.shape] at h7), fun w' hw' => ?_⟩
          obtain ⟨_, hbx⟩ := hw' hl
          obtain ⟨z, k4, rfl, k6⟩ := box_load (F := fun z => z = y) (wa := w') ok (fun b' t' c' hb' => by
            rw [g1] at hb'
            simp at hb'
            obtain ⟨rfl, rfl, rfl⟩ := hb'
            exact ⟨hbx id b bt c hid g0.symm, k3⟩) hxv hli hD (by rw [g1]; exact ifSome_iff.2 ⟨y, h6, rfl⟩)
          simp [execOp, hop, k6]
        · cases h
      · cases h
    · cases h
  · have hl : isLoad o = false := by simpa using hl
    have hp : pureVC X s o F := by
      unfold earlyVC at h
      split at h
      · rename_i t x hop
        simp [isLoad, hop] at hl
      · exact h
    obtain ⟨v, sv, h1, h2, h3, h4⟩ := pure_sound ok hr.ev hl hp
    exact ⟨v, sv, h1, h2, h3, fun w' _ => h4 w'⟩

/-- where a tree stands -/
structure At (K : Option (List Nat)) (X : Tab) (N : Nat) (ops : Array Oper) (s0 : St) (w0 : World) (a0 : Act) (listed : Array Bool) (s : St) (w : World) (a : Act) (wa : World) : Prop where
  rel : Rel X N s w a wa
  fr : Fr (opsW ops.toList) a0 a
  down : Down ops listed
  nb : s0.nb ≤ s.nb
  base : Was0 K w0 w0
  was : AllStrict X ops listed → Was0 K w0 wa ∧ ∀ i, i < s0.nb → s.bx i = s0.bx i

theorem At.C {s0 : St} {w0 : World} {a0 : Act} {listed : Array Bool} {s : St} {w : World} {a : Act} {wa : World} (h : At K X N ops s0 w0 a0 listed s w a wa) (hs : AllStrict X ops listed) : Was K s0 w0 s0.nb wa := by
  obtain ⟨h1, h2⟩ := h.was hs
  exact ⟨h1, fun i b t c hi hb => (h.rel.bx i b t c (by rw [h2 i hi]; exact hb)).2.1⟩

theorem allStrict_set {listed : Array Bool} {i : Nat} (h : AllStrict X ops (listed.setIfInBounds i true)) : AllStrict X ops listed := fun m hm => h m (getD_set_true hm)
theorem strict_set {listed : Array Bool} {i : Nat} (hr : i ∈ Region.ready .any ops listed) (h : AllStrict X ops (listed.setIfInBounds i true)) : strictOp X ops i = true := h i (by
  have : listed.getD i true = false := (mem_ready.1 hr).1
  rcases Nat.lt_or_ge i listed.size with h' | h'
  · simp [h']
  · simp [Array.getElem?_eq_none h'] at this)

theorem fr_op {i : Nat} {o : Oper} (hi : ops[i]? = some o) {a0 a : Act} (h : Fr (opsW ops.toList) a0 a) (v : Value) : Fr (opsW ops.toList) a0 (a.put o.dst v) :=
  (h.trans (Fr.put a o.dst v)).mono (fun t ht => by
    rcases List.mem_append.1 ht with ht | ht
    · exact ht
    · exact mem_opsW (o := o) (List.mem_of_getElem? (i := i) (by simpa using hi)) (by simpa using ht))

theorem oneAnd_iff {α : Type} {r : List α} {A B : Prop} : oneAnd r A B → A ∧ (r = [] ∨ B) := by
  cases r with
  | nil => exact fun h => ⟨h, .inl rfl⟩
  | cons x r => exact fun h => ⟨h.1, .inr h.2⟩

include ok in
theorem tree_sound {s0 : St} {w0 : World} {a0 : Act} {k : St → World → Prop} (hs : Region.noSelect ops = true) (hN : ∀ t ∈ opsW ops.toList, t < N)
    (hsh : ∀ i b t c, s0.bx i = some (.box b t c) → c.shape (X.T t) = true)
    (hQ : ∀ c a w, ¬ Q (.panic c) a w) (hO : ∀ a w, ¬ Q .outgrown a w)
    (hk : ∀ s w a wa, k s w → Rel X N s w a wa → Fr (opsW ops.toList) a0 a → Q .normal a wa) :
    ∀ (t : Tree) (n : Nat) (listed : Array Bool) (s : St) (w : World) (a : Act) (wa : World), okFrom ops t n listed = true → treeVC K X ops.toList w0 s0.nb t s w k →
      At K X N ops s0 w0 a0 listed s w a wa → wpAnyC X (Was K s0 w0 s0.nb) ops Q n listed a wa := by
  intro t
  induction t using Tree.rec (motive_2 := fun l => ∀ (n : Nat) (listed : Array Bool) (is : List Nat) (s : St) (w : World) (a : Act) (wa : World), okFork ops l n listed is = true → forkVC K X ops.toList w0 s0.nb l s w k →
      At K X N ops s0 w0 a0 listed s w a wa → (∀ i ∈ is, i ∈ Region.ready .any ops listed) →
      ∀ i ∈ is, wpOp X.P ops Q i (fun a' w' => (strictOp X ops i = true → AllStrict X ops listed → Was K s0 w0 s0.nb w') ∧ wpAnyC X (Was K s0 w0 s0.nb) ops Q n (listed.setIfInBounds i true) a' w') a wa)
      (motive_3 := fun p => ∀ (n : Nat) (listed : Array Bool) (s : St) (w : World) (a : Act) (wa : World), okFrom ops p.2 n listed = true → treeVC K X ops.toList w0 s0.nb p.2 s w k →
      At K X N ops s0 w0 a0 listed s w a wa → wpAnyC X (Was K s0 w0 s0.nb) ops Q n listed a wa) with
  | done =>
    intro n listed s w a wa ho h hat
    simp only [okFrom, Bool.and_eq_true] at ho
    obtain rfl := nbeq.1 ho.1
    simp only [treeVC] at h
    exact ⟨by simpa using ho.2, hk s w a wa h hat.rel hat.fr⟩
  | early i t ih =>
    intro n listed s w a wa ho h hat
    cases n with
    | zero => simp [okFrom] at ho
    | succ n =>
      simp only [okFrom, Bool.and_eq_true] at ho
      obtain ⟨⟨h1, h2⟩, h3⟩ := ho
      have hr : i ∈ Region.ready .any ops listed := by simpa using h1
      simp only [treeVC, nth_eq, Array.getElem?_toList] at h
      cases hi : ops[i]? with
      | none => rw [hi] at h; cases h
      | some o =>
        rw [hi] at h
        simp only at h
        split at h
        case h_2 => cases h
        rename_i hq
        have hst : strictOp X ops i = true := by simp [strictOp, hi, hq]
        have hg := guard_sound h hat.rel
        have hd : ∀ t, o.dst = some t → t < N := fun t ht => hN t (mem_opsW (o := o) (List.mem_of_getElem? (i := i) (by simpa using hi)) ht)
        cases hw : Region.wanted o (yielded ops a.tmps) with
        | true =>
          obtain ⟨s1, hy, hr1, hb1, hn1, hm1⟩ := hg.1 hw
          have hbl : isLoad o = true → ∀ i, i < s0.nb → s1.bx i = s0.bx i := fun hl => by
            rw [hb1]
            exact (hat.was (load_allStrict hi hr hat.down hl)).2
          obtain ⟨v, sv, g1, g2, g3, g4⟩ := early_sound ok hy hr1 hsh hbl
          refine wpAnyC_first hi (Region.noSelect_spec hs) hQ hO hst n listed a wa (Region.free_spec hi h2) hr hat.down hat.C (v := v) (.inl ⟨hw, g4⟩) ?_
          refine ih n _ _ w _ wa h3 g2 ⟨hr1.putD hd g1 (lp_nb hr1 g3), fr_op hi hat.fr v, hat.down.set hr, by rw [putD_nb, hn1]; exact hat.nb, hat.base, fun hall => ?_⟩
          rw [putD_bx, hb1]
          exact hat.was (allStrict_set hall)
        | false =>
          obtain ⟨s1, hn, hr1, hb1, hn1, hm1⟩ := hg.2 hw
          refine wpAnyC_first hi (Region.noSelect_spec hs) hQ hO hst n listed a wa (Region.free_spec hi h2) hr hat.down hat.C (v := undef) (.inr ⟨hw, rfl⟩) ?_
          refine ih n _ _ w _ wa h3 hn ⟨hr1, fr_op hi hat.fr undef, hat.down.set hr, by rw [hn1]; exact hat.nb, hat.base, fun hall => ?_⟩
          rw [hb1]
          exact hat.was (allStrict_set hall)
  | fork l ih =>
    intro n listed s w a wa ho h hat
    cases n with
    | zero => simp [okFrom] at ho
    | succ n =>
      simp only [okFrom] at ho
      cases l with
      | nil => simp [treeVC] at h
      | cons p l =>
        simp only [treeVC] at h
        refine ⟨fun he => ?_, fun i hi => ih n listed _ s w a wa ho h hat (fun _ h => h) i hi⟩
        rw [he] at ho
        simp [okFork] at ho
  | nil =>
    rename_i n listed is s w a wa ho h hat hrd i hi
    cases is with
    | nil => cases hi
    | cons j is => simp [okFork] at ho
  | cons p l ihp ihl =>
    rename_i n listed is s w a wa ho h hat hrd i hi
    obtain ⟨j, t⟩ := p
    cases is with
    | nil => simp [okFork] at ho
    | cons x is =>
      simp only [okFork, Bool.and_eq_true] at ho
      obtain ⟨⟨h1, h2⟩, h3⟩ := ho
      obtain rfl := nbeq.1 h1
      simp only [forkVC] at h
      obtain ⟨hA, hB⟩ := oneAnd_iff h
      rcases List.mem_cons.1 hi with rfl | hi
      · have hr := hrd i (by simp)
        have hd' := hat.down.set hr
        simp only [nth_eq, Array.getElem?_toList] at hA
        unfold wpOp
        cases hio : ops[i]? with
        | none => rw [hio] at hA; cases hA
        | some o =>
          rw [hio] at hA
          simp only at hA ⊢
          have hg := guard_sound hA hat.rel
          have hd : ∀ t, o.dst = some t → t < N := fun t ht => hN t (mem_opsW (o := o) (List.mem_of_getElem? (i := i) (by simpa using hio)) ht)
          cases hw : Region.wanted o (yielded ops a.tmps) with
          | true =>
            simp only [if_true]
            left
            obtain ⟨s1, hy, hr1, hb1, hn1, hm1⟩ := hg.1 hw
            refine Oper.wp_mono ?_ (opVC_sound ok (Q := Q) hy hr1 hd)
            rintro a' wa' ⟨s', w', g1, g2, g3, g4, v, rfl⟩
            cases hst : strictOp X ops i with
            | true =>
              have hst' : (racesWith ops.toList i || quiet X o) = true := by simpa [strictOp, hio] using hst
              rw [hst'] at g1
              simp only [strictVC] at g1
              split at g1
              · cases g1
              · rename_i hse
                simp only [Bool.or_eq_false_iff] at hse
                split at g1
                · rename_i hmods
                  obtain ⟨g11, g12⟩ := knew_iff g1 hat.base
                  have hup : Was0 K w0 wa' := g11.trans (by have := g2.upd; rw [hmods] at this; exact this.mono (by simp) (by simp))
                  have hat' : At K X N ops s0 w0 a0 (listed.setIfInBounds i true) s' w' (a.put o.dst v) wa' := ⟨g2, fr_op hio hat.fr v, hd', by have := hat.nb; omega, hat.base, fun hall =>
                    ⟨hup, fun i' hi' => by rw [g4 hse.1 hse.2 i' (by rw [hn1]; have := hat.nb; omega), hb1]; exact (hat.was (allStrict_set hall)).2 i' hi'⟩⟩
                  refine ⟨fun _ hall => hat'.C (fun m hm => ?_), ihp n _ s' w' _ wa' h2 g12 hat'⟩
                  rcases getD_set_iff hm with rfl | hm
                  · exact hst
                  · exact hall m hm
                · cases g1
            | false =>
              have hst' : (racesWith ops.toList i || quiet X o) = false := by simpa [strictOp, hio] using hst
              rw [hst'] at g1
              refine ⟨(fun e => by cases e), ihp n _ s' w' _ wa' h2 g1 ⟨g2, fr_op hio hat.fr v, hd', by have := hat.nb; omega, hat.base, fun hall => ?_⟩⟩
              rw [strict_set hr hall] at hst
              cases hst
          | false =>
            simp only [Bool.false_eq_true, if_false]
            obtain ⟨s1, hn, hr1, hb1, hn1, hm1⟩ := hg.2 hw
            refine ⟨fun _ hall => hat.C hall, ihp n _ s1 w _ wa h2 hn ⟨hr1, fr_op hio hat.fr undef, hd', by rw [hn1]; exact hat.nb, hat.base, fun hall => ?_⟩⟩
            rw [hb1]
            exact hat.was (allStrict_set hall)
      · rcases hB with rfl | hB
        · cases is with
          | nil => cases hi
          | cons y is => simp [okFork] at h3
        · exact ihl n listed is s w a wa h3 hB hat (fun m hm => hrd m (by simp [hm])) i hi
  | mk i t ih => rename_i n listed s w a wa h1 h2 h3; exact ih _ _ _ _ _ _ h1 h2 h3
end
end Go.Vc
