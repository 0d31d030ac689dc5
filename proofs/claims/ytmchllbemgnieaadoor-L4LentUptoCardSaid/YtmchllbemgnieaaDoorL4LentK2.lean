import Derived.Test.YtmchllbemgnieaaDoorL4LentK1
import Derived.Test.YtmchllbemgnieaaDoorProg
import Derived.Below
import Derived.KernelRfl
section
namespace Go.Vc
open Go.RowKit (Below)
set_option linter.unusedSimpArgs false
set_option linter.unusedVariables false
set_option autoImplicit false

theorem same_boxes {s1 s : St} : ∀ {bs : List Nat} {F : Prop}, sameBoxes s1 s bs F → (∀ i ∈ bs, s1.bx i = s.bx i) ∧ F
  | [], F, h => ⟨by simp, h⟩
  | i :: r, F, h => by
    simp only [sameBoxes] at h
    obtain ⟨h1, h2⟩ := same_boxes h.2
    refine ⟨fun j hj => ?_, h2⟩
    rcases List.mem_cons.1 hj with rfl | hj
    · exact h.1
    · exact h1 j hj
theorem same_nums {s1 s : St} : ∀ {ks : List (Key × Ty)} {F : Prop}, sameNums s1 s ks F → (∀ n t, (Key.b n, t) ∈ ks → boxBT (s1.bx n) = boxBT (s.bx n)) ∧ F
  | [], F, h => ⟨by simp, h⟩
  | (.t m, ty) :: r, F, h => by
    simp only [sameNums] at h
    obtain ⟨h1, h2⟩ := same_nums h
    refine ⟨fun n t hj => ?_, h2⟩
    rcases List.mem_cons.1 hj with hj | hj
    · cases hj
    · exact h1 n t hj
  | (.b m, ty) :: r, F, h => by
    simp only [sameNums] at h
    obtain ⟨h1, h2⟩ := same_nums h.2
    refine ⟨fun n t hj => ?_, h2⟩
    rcases List.mem_cons.1 hj with hj | hj
    · cases hj; exact h.1
    · exact h1 n t hj

theorem least {S : Nat → Prop} (h : ∃ n, S n) : ∃ n, S n ∧ ∀ m, S m → n ≤ m := by
  obtain ⟨n, hn⟩ := h
  induction n using Nat.strongRecOn with
  | _ n ih =>
    by_cases hm : ∃ m, m < n ∧ S m
    · obtain ⟨m, h1, h2⟩ := hm
      exact ih m h1 h2
    · exact ⟨n, hn, fun m hm' => Nat.le_of_not_lt fun hlt => hm ⟨m, hlt, hm'⟩⟩

section
variable {X : Tab} (ok : TabOK X) {N : Nat}

theorem Post.mono {k k' : St → World → Prop} {ex ex' : Nat → St → World → Prop} {ret ret' : St → World → Prop} {W W' : List Nat} {a0 a0' : Act}
    (hf : ∀ a, Fr W a0 a → Fr W' a0' a) {e : Exit} {a : Act} {w : World}
    (h : Post X N k ex ret W a0 e a w) (hk : ∀ s w, k s w → k' s w) (hex : ∀ i s w, ex i s w → ex' i s w) (hret : ∀ s w, ret s w → ret' s w) : Post X N k' ex' ret' W' a0' e a w := by
  cases e <;> simp only [Post] at h ⊢
  case normal => obtain ⟨⟨s, w, h1, h2⟩, h3⟩ := h; exact ⟨⟨s, w, hk _ _ h1, h2⟩, hf _ h3⟩
  case exit i => obtain ⟨⟨s, w, h1, h2⟩, h3⟩ := h; exact ⟨⟨s, w, hex _ _ _ h1, h2⟩, hf _ h3⟩
  case ret => obtain ⟨s, w, h1, h2⟩ := h; exact ⟨s, w, hret _ _ h1, h2⟩

/-- the parts behind a piece of code -/
theorem Post.then {b : Code} {k1 k : St → World → Prop} {ex : Nat → St → World → Prop} {ret : St → World → Prop} {W W' : List Nat} {a0 : Act}
    (hb : ∀ s w a wa, k1 s w → Rel X N s w a wa → Fr W a0 a → b.wp X.P (Post X N k ex ret W' a) a wa) :
    ∀ e a wa, Post X N k1 ex ret W a0 e a wa → Exit.then (b.wp X.P (Post X N k ex ret (W ++ W') a0)) (Post X N k ex ret (W ++ W') a0) e a wa := by
  intro e a wa h
  cases e <;> simp only [Post, Exit.then] at h ⊢
  case normal =>
    obtain ⟨⟨s, w, h1, h2⟩, h3⟩ := h
    exact wp_mono (hb s w a wa h1 h2 h3) (fun e a' w' hp => hp.mono (fun a'' hf => h3.trans hf) (fun _ _ h => h) (fun _ _ _ h => h) (fun _ _ h => h))
  case exit i => exact ⟨h.1, h.2.mono (by simp; intro t ht; exact .inl ht)⟩
  case ret => exact h

include ok in
theorem vc_sound : ∀ (c : Code) (n : Ann) (s : St) (w : World) (a : Act) (wa : World) (k : St → World → Prop) (ex : Nat → St → World → Prop) (ret : St → World → Prop),
    vc X c n s w k ex ret → Rel X N s w a wa → (∀ t ∈ codeW c, t < N) → c.wp X.P (Post X N k ex ret (codeW c) a) a wa := by
  intro c
  induction c with
  | skip =>
    intro n s w a wa k ex ret h hr hN
    simp only [vc] at h
    exact wp_skip ⟨⟨s, w, h, hr⟩, Fr.refl _ _⟩
  | region id ops draw =>
    intro n s w a wa k ex ret h hr hN
    simp only [codeW] at hN ⊢
    cases draw with
    | false =>
      simp only [vc] at h
      exact wp_region_list (opsVC_sound ok h hr hN (fun s' w' a' wa' h1 h2 h3 => ⟨⟨s', w', h1, h2⟩, h3⟩))
    | true =>
      have main : ∀ (K : Option (List Nat)) (t : Tree) (s' : St) (w' : World), Was0 K w' w' → okTree ops t = true → treeVC K X ops.toList w' s'.nb t { s' with dirty := true } w' k → Rel X N s' w' a wa → Upd [] [] w' wa → s'.mods = [] → (Code.region id ops true).wp X.P (Post X N k ex ret (opsW ops.toList) a) a wa := by
        intro K t s' w' hbase hok h1 h2 h3 h7
        simp only [okTree, Bool.and_eq_true] at hok
        refine wp_region_any ok.mixed (wpAny_of_C _ _ _ _ (tree_sound ok (K := K) (s0 := { s' with dirty := true }) (w0 := w') (a0 := a) (k := k) hok.1 hN
          (fun i b t c hb => (h2.bx i b t c hb).2.2) (fun _ _ _ h => h) (fun _ _ h => h) (fun s w a wa g1 g2 g3 => ⟨⟨s, w, g1, g2⟩, g3⟩) t _ _ _ w' a _ hok.2 h1 ?_))
        exact ⟨h2.drew, Fr.refl _ _, (fun i o _ hi => by
          rw [Array.getD_eq_getD_getElem?, Array.getElem?_replicate] at hi
          split at hi <;> simp at hi), Nat.le_refl _, hbase, fun _ => ⟨hbase.trans h3.drew, fun _ _ => rfl⟩⟩
      cases n <;> simp only [vc] at h <;> try (cases h; done)
      case draw t =>
        split at h
        · rename_i hok
          obtain ⟨s', w', h1, h2, h3, h4, h5, h6, h7⟩ := look_sound h hr
          exact main none t s' w' (Upd.refl _) hok h1 h2 h3 h7
        · cases h
      case drawF ids t =>
        split at h
        · rename_i hok
          have h1 := flush_sound h hr
          obtain ⟨s', h2, h3, h4, h5⟩ := escs_sound h1 (by exact hr.clean.clean) rfl
          refine main none t s' wa (Upd.refl _) hok h2 h3 (Upd.refl _) (by rw [← h4]; rfl)
        · cases h
      case drawK ids t =>
        split at h
        · rename_i hok
          have h1 := flush_sound h hr
          obtain ⟨s', h2, h3, h4, h5⟩ := escs_sound h1 (by exact hr.clean.clean) rfl
          obtain ⟨bs, h6, h2⟩ := h2
          refine main (some bs) t s' wa ⟨h6, fun _ _ => rfl⟩ hok h2 h3 (Upd.refl _) (by rw [← h4]; rfl)
        · cases h
  | seq x y ihx ihy =>
    intro n s w a wa k ex ret h hr hN
    simp only [codeW, List.mem_append] at hN ⊢
    cases n <;> simp only [vc] at h <;> try (cases h; done)
    case seq na nb =>
      refine wp_seq (wp_mono (ihx na s w a wa _ ex ret h hr (fun t ht => hN t (.inl ht))) (Post.then fun s1 w1 a1 wa1 g1 g2 _ => ihy nb s1 w1 a1 wa1 k ex ret g1 g2 (fun t ht => hN t (.inr ht))))
    case cut ks bs na nb =>
      have h := h (Ty.curs (tysOf ks) fun l w1 => vc X y nb ((s.forget (codeW x) ks bs).setAll ks l) w1 k ex ret) (by
        refine (alls_fits _ _).2 fun l hl w1 hv => ?_
        unfold appL
        rw [apps_curs _ _ l hl]
        exact hv)
      refine wp_seq (wp_mono (ihx na s w a wa _ ex ret h hr (fun t ht => hN t (.inl ht))) (Post.then fun s1 w1 a1 wa1 g1 g2 g3 => ?_))
      have g1 := flush_sound g1 g2
      obtain ⟨k1, g1⟩ := same_boxes g1
      obtain ⟨k2, g1⟩ := same_nums g1
      unfold appJ at g1
      split at g1
      · rename_i l hl
        split at g1
        · rename_i F hF
          have hfit := apps_fits _ _ _ _ hF
          rw [apps_curs _ _ l hfit] at hF
          obtain rfl := Option.some.inj hF
          exact ihy nb _ _ a1 wa1 k ex ret g1 (hr.forget g2.clean g3 k1 k2 hl hfit) (fun t ht => hN t (.inr ht))
        · cases g1
      · cases g1
  | cond c x y ihx ihy =>
    intro n s w a wa k ex ret h hr hN
    simp only [codeW, List.mem_append] at hN ⊢
    cases n <;> simp only [vc] at h <;> try (cases h; done)
    case cond na nb =>
      have mono1 : ∀ e a' w', Post X N k ex ret (codeW x) a e a' w' → Post X N k ex ret (codeW x ++ codeW y) a e a' w' := fun e a' w' hp => hp.mono (fun _ hf => hf.mono (by simp; intro t ht; exact .inl ht)) (fun _ _ h => h) (fun _ _ _ h => h) (fun _ _ h => h)
      have mono2 : ∀ e a' w', Post X N k ex ret (codeW y) a e a' w' → Post X N k ex ret (codeW x ++ codeW y) a e a' w' := fun e a' w' hp => hp.mono (fun _ hf => hf.mono (by simp; intro t ht; exact .inr ht)) (fun _ _ h => h) (fun _ _ _ h => h) (fun _ _ h => h)
      split at h
      · rename_i t
        split at h
        · rename_i v hv
          have hev : a.eval (.tmp t) = .bool v := by
            have := hr.ev (.tmp t) _ hv
            simpa only [RelV, SV.enc] using this
          refine wp_cond_split hev (fun e => ?_) (fun e => ?_)
          · subst e
            exact wp_mono (ihx na _ w a wa k ex ret h (hr.known hv) (fun t ht => hN t (.inl ht))) mono1
          · subst e
            exact wp_mono (ihy nb _ w a wa k ex ret h (hr.known hv) (fun t ht => hN t (.inr ht))) mono2
        · cases h
      · rename_i v
        refine wp_cond_split (t := v) rfl (fun e => ?_) (fun e => ?_)
        · subst e
          exact wp_mono (ihx na _ w a wa k ex ret h hr (fun t ht => hN t (.inl ht))) mono1
        · subst e
          exact wp_mono (ihy nb _ w a wa k ex ret h hr (fun t ht => hN t (.inr ht))) mono2
      · cases h
  | block id x ihx =>
    intro n s w a wa k ex ret h hr hN
    simp only [codeW] at hN ⊢
    cases n <;> simp only [vc] at h <;> try (cases h; done)
    rename_i nx
    refine wp_block (wp_mono (ihx nx s w a wa _ _ ret h hr hN) ?_)
    intro e a' w' hp
    cases e <;> simp only [Post, Exit.inBlock] at hp ⊢
    case normal => exact hp
    case ret => exact hp
    case exit i =>
      obtain ⟨⟨s1, w1, h1, h2⟩, h3⟩ := hp
      by_cases hid : i = id
      · rw [if_pos hid]
        rw [nbeq.2 hid] at h1
        exact ⟨⟨s1, w1, h1, h2⟩, h3⟩
      · rw [if_neg hid]
        rw [nbeq_false.2 hid] at h1
        exact ⟨⟨s1, w1, h1, h2⟩, h3⟩
  | loop x ihx =>
    intro n s w a wa k ex ret h hr hN
    simp only [codeW] at hN ⊢
    have main : ∀ (ks : List (Key × Ty)) (bs : List Nat) (nx : Ann) (s : St) (w : World), loopVC ks bs (codeW x) (fun s w kk => vc X x nx s w kk ex ret) s w → Rel X N s w a wa → (Code.loop x).wp X.P (Post X N k ex ret (codeW x) a) a wa := by
      intro ks bs nx s w h hr
      obtain ⟨I, M, h0, hrd⟩ := h
      have h0 := flush_sound h0 hr
      -- what holds at the head
      let InvL : List SV → Act → World → Prop := fun l a' wa' => fitsL (tysOf ks) l ∧ appL ks I l wa' ∧ Rel X N ((s.forget (codeW x) ks bs).setAll ks l) wa' a' wa'
      let S : Act → World → Nat → Prop := fun a' wa' n => ∃ l, InvL l a' wa' ∧ meas ks M l wa' = n
      let Inv : Act → World → Prop := fun a' wa' => (∃ n, S a' wa' n) ∧ Fr (codeW x) a a'
      have μ : ∃ μ : Act → World → Nat, ∀ a' wa', (∃ n, S a' wa' n) → S a' wa' (μ a' wa') ∧ ∀ m, S a' wa' m → μ a' wa' ≤ m := by
        refine ⟨fun a' wa' => open Classical in if h : ∃ n, S a' wa' n then Classical.choose (least h) else 0, fun a' wa' h => ?_⟩
        simp only [dif_pos h]
        exact Classical.choose_spec (least h)
      obtain ⟨μ, hμ⟩ := μ
      have enter : ∀ {s1 : St} {w1 : World} {a1 : Act} {wa1 : World}, appJ ks I s1 wa1 → Rel X N s1 wa1 a1 wa1 → Fr (codeW x) a a1 → (∀ i ∈ bs, s1.bx i = s.bx i) → (∀ n t, (Key.b n, t) ∈ ks → boxBT (s1.bx n) = boxBT (s.bx n)) →
          ∃ l, s1.get ks = some l ∧ InvL l a1 wa1 := by
        intro s1 w1 a1 wa1 g1 g2 g3 k1 k2
        unfold appJ at g1
        split at g1
        · rename_i l hl
          split at g1
          · rename_i F hF
            have hfit := apps_fits _ _ _ _ hF
            exact ⟨l, hl, hfit, by unfold appL; rw [hF]; exact g1, hr.forget g2 g3 k1 k2 hl hfit⟩
          · cases g1
        · cases g1
      refine wp_loop Inv μ ?_ ?_
      · obtain ⟨l, _, hl⟩ := enter (w1 := w) h0 hr.clean (Fr.refl _ _) (fun _ _ => rfl) (fun _ _ _ => rfl)
        exact ⟨⟨_, l, hl, rfl⟩, Fr.refl _ _⟩
      · rintro a1 wa1 ⟨hS, hfr⟩
        obtain ⟨⟨l, ⟨hfit, hI, hrel⟩, hm⟩, _⟩ := hμ a1 wa1 hS
        have hv := (alls_fits _ _).1 hrd l hfit wa1 hI
        refine wp_mono (ihx nx _ wa1 a1 wa1 _ ex ret hv hrel hN) ?_
        intro e a2 wa2 hp
        cases e <;> simp only [Post, Exit.then] at hp ⊢
        case normal =>
          obtain ⟨⟨s2, w2, g1, g2⟩, g3⟩ := hp
          have g1 := flush_sound g1 g2
          obtain ⟨k1, g1⟩ := same_boxes g1
          obtain ⟨k2, g1⟩ := same_nums g1
          have hfr2 : Fr (codeW x) a a2 := (hfr.trans g3).mono (by simp)
          obtain ⟨l2, hl2, hinv⟩ := enter (w1 := w2) g1.1 g2.clean hfr2 k1 k2
          refine ⟨⟨⟨_, l2, hinv, rfl⟩, hfr2⟩, ?_⟩
          have hle := (hμ a2 wa2 ⟨_, l2, hinv, rfl⟩).2 _ ⟨l2, hinv, rfl⟩
          have hlt : meas ks M l2 wa2 < meas ks M l wa1 := by
            have hM := g1.2
            unfold appM at hM
            rw [hl2] at hM
            simp only at hM
            split at hM
            · rename_i F hF
              unfold meas
              rw [hF]
              exact hM
            · cases hM
          rw [hm] at hlt
          exact Nat.lt_of_le_of_lt hle hlt
        case exit i => exact ⟨hp.1, (hfr.trans hp.2).mono (by simp)⟩
        case ret => exact hp
    cases n <;> simp only [vc] at h <;> try (cases h; done)
    case loop ks bs nx => exact main ks bs nx s w h hr
    case loopF ids ks bs nx =>
      have h1 := flush_sound h hr
      obtain ⟨s', h2, h3, _, _⟩ := escs_sound h1 (by exact hr.clean.clean) rfl
      exact main ks bs nx s' wa h2 h3
  | scope x ihx =>
    intro n s w a wa k ex ret h hr hN
    simp only [codeW] at hN ⊢
    simp only [vc] at h
    refine wp_scope_straight (wp_mono (ihx n s w a wa k ex ret h hr hN) ?_)
    intro e a' w' hp
    cases e <;> first | exact hp | exact hp.elim
  | label l =>
    intro n s w a wa k ex ret h hr hN
    simp only [vc] at h
    exact wp_label ⟨⟨s, w, h, hr⟩, Fr.refl _ _⟩
  | exit id =>
    intro n s w a wa k ex ret h hr hN
    simp only [vc] at h
    exact wp_exit ⟨⟨s, w, h, hr⟩, Fr.refl _ _⟩
  | ret =>
    intro n s w a wa k ex ret h hr hN
    simp only [vc] at h
    exact wp_ret ⟨s, w, h, hr⟩
  | _ => intro n s w a wa k ex ret h; simp only [vc] at h
end
end Go.Vc
end

section
namespace Go.Vc
open Go.RowKit (Below)
set_option linter.unusedSimpArgs false
set_option linter.unusedVariables false
set_option autoImplicit false

/-- one result of a call -/
def resOne (tmps : Array Value) : ResultVar → Sem Value
  | .tmp t => pure (tmps.getD t undef)
  | .cell a t => do loadVar t (← asAddr (tmps.getD a undef))

section
variable {X : Tab} (ok : TabOK X) {N : Nat}

include ok in
theorem resSV_run {s : St} {w : World} {a : Act} {wa : World} (hr : Rel X N s w a wa) : ∀ {rs : List ResultVar} {l : List SV}, resSV X s rs = some l → allPlain l = true →
    (rs.mapM (resOne a.tmps)).run X.P wa = .ok (SV.encL l) wa
  | [], l, h, _ => by
    simp only [resSV, Option.some.injEq] at h
    subst h
    simp [SV.encL]
  | .tmp t :: r, l, h, hp => by
    simp only [resSV] at h
    split at h
    · rename_i x l' h1 h2
      obtain rfl : x :: l' = l := by simpa using h
      simp only [allPlain, Bool.and_eq_true] at hp
      have ih := resSV_run hr h2 hp.2
      have hx := (relv_plain hp.1).1 (hr.env t x h1)
      simp only [List.mapM_cons, Sem.run_bind, resOne, Sem.run_pure, Result.andThen_ok, ih, hx, SV.encL]
    · cases h
  | .cell b t :: r, l, h, hp => by
    simp only [resSV] at h
    split at h
    · rename_i id off p l' h1 h2
      split at h
      · rename_i hli
        split at h
        · rename_i bb bt c hb
          split at h
          · rename_i x hx
            obtain rfl : x :: l' = l := by simpa using h
            simp only [allPlain, Bool.and_eq_true] at hp
            have ih := resSV_run hr h2 hp.2
            have hv := hr.env b _ h1
            obtain ⟨b2, bt2, c2, g1, g2, g3⟩ := lIs_path hv hli
            rw [hb] at g1
            simp at g1
            obtain ⟨rfl, rfl, rfl⟩ := g1
            obtain ⟨_, _, k3⟩ := hr.bx id bb bt c hb
            have hD : isData (X.T t) = true := by
              obtain ⟨y, hy, hys, _⟩ := path_get k3 g3
              cases hT : X.T t <;> rw [hT] at hys <;> first | rfl | (cases y <;> simp [SV.shape] at hys)
            obtain ⟨z, k4, rfl, k6⟩ := box_load (F := fun z => z = x) (wa := wa) ok (fun b' t' c' hb' => (hr.bx _ b' t' c' hb').2) hv hli hD (by rw [hb]; exact ifSome_iff.2 ⟨x, hx, rfl⟩)
            rw [g2] at k6
            have k7 : (loadVar t ⟨bb, off, none⟩).run X.P wa = .ok z.enc wa := by
              simpa [Instr.loadAt, Instr.sureAddr] using k6
            simp only [List.mapM_cons, Sem.run_bind, resOne, g2, asAddr, Sem.run_pure, Result.andThen_ok, k7, ih, SV.encL]
          · cases h
        · cases h
      · cases h
    · cases h

theorem encL_length (l : List SV) : (SV.encL l).length = l.length := by rw [encL_eq]; simp

include ok in
theorem results_run {s : St} {w : World} {a : Act} {wa : World} (hr : Rel X N s w a wa) {fn : Func} {l : List SV} (h : resSV X s fn.results.toList = some l) (hp : allPlain l = true) :
    (results fn a.tmps).run X.P wa = .ok (oneOf l).enc wa := by
  have h1 := resSV_run ok hr h hp
  have h2 : (fn.results.mapM (resOne a.tmps)).run X.P wa = .ok (SV.encL l).toArray wa := by
    rw [Array.mapM_eq_mapM_toList, ← bind_pure_comp, Sem.run_bind, h1]
    simp
  have h3 : results fn a.tmps = (do let vs ← fn.results.mapM (resOne a.tmps); pure (if h : vs.size = 1 then vs[0] else .tuple vs)) := by
    unfold results
    congr 1
  rw [h3, Sem.run_bind, h2]
  simp only [Result.andThen_ok, Sem.run_pure]
  congr 1
  match l with
  | [] => simp [oneOf, SV.enc, SV.encL]
  | [x] => simp [oneOf, SV.encL]
  | x :: y :: r => simp [oneOf, SV.enc, SV.encL]

theorem argsEnv_get : ∀ (l : List SV) (i u : Nat) (v : SV), argsEnv l i u = some v → i ≤ u ∧ l[u - i]? = some v
  | [], i, u, v, h => by simp [argsEnv] at h
  | x :: r, i, u, v, h => by
    simp only [argsEnv] at h
    split at h
    · rename_i e
      have := nbeq.1 e
      subst this
      simp at h
      simp [h]
    · rename_i e
      have hne := nbeq_false.1 e
      obtain ⟨h1, h2⟩ := argsEnv_get r (i + 1) u v h
      refine ⟨by omega, ?_⟩
      rw [show u - i = (u - (i + 1)) + 1 by omega]
      simpa using h2

theorem allPlain_mem : ∀ {l : List SV}, allPlain l = true → ∀ x ∈ l, plain x = true
  | [], _, x, h => by cases h
  | y :: r, hp, x, h => by
    simp only [allPlain, Bool.and_eq_true] at hp
    rcases List.mem_cons.1 h with rfl | h
    · exact hp.1
    · exact allPlain_mem hp.2 x h

/-- the temporaries that the code writes are the function's -/
def writesOK (fn : Func) : Bool := match fn.body with | some c => (codeW c).all fun t => Nat.blt t fn.ntmps | none => false

/-- the beginning of a call -/
theorem start_rel (hD : X.D = []) {args : List SV} (hp : allPlain args = true) (w : World) (n : Nat) :
    Rel X (((SV.encL args).toArray ++ Array.replicate n undef).size) (start args) w { tmps := (SV.encL args).toArray ++ Array.replicate n undef, defers := [] } w where
  defers := hD.symm
  size := rfl
  env := fun t v hv => by
    simp only [start] at hv
    obtain ⟨_, hg⟩ := argsEnv_get args 0 t v hv
    simp only [Nat.sub_zero] at hg
    have hpl := allPlain_mem hp v (List.mem_of_getElem? hg)
    refine (relv_plain hpl).2 ?_
    have hlt : t < args.length := (List.getElem?_eq_some_iff.1 hg).1
    simp only [Array.getD_eq_getD_getElem?]
    rw [Array.getElem?_append_left (by simp [encL_length]; exact hlt)]
    simp [encL_eq, hg]
  bx := fun i b t c hb => by simp [start] at hb
  sep := fun i j b t c b' t' c' hb => by simp [start] at hb
  lp := fun u id off p hu => by
    simp only [start] at hu
    obtain ⟨_, hg⟩ := argsEnv_get args 0 u _ hu
    have hpl := allPlain_mem hp _ (List.mem_of_getElem? hg)
    simp [plain] at hpl
  nb0 := Nat.le_refl _
  newIn := fun i b t c hb => by simp [start] at hb
  modIn := fun i b t c hb => by simp [start] at hb
  idlt := by simp [start]
  upd := Upd.refl w
  cln := fun _ => rfl

include ok in
/-- the end of a call -/
theorem fin_run {N : Nat} {fn : Func} {R : SV → World → Prop} {s : St} {w1 : World} {a1 : Act} {wa1 : World} (hh : finVC X fn R s w1) (hr1 : Rel X N s w1 a1 wa1) :
    ∃ v, (results fn a1.tmps).run X.P wa1 = .ok v wa1 ∧ (∃ r, (Ending.returned v) = .returned r.enc ∧ R r wa1) := by
  unfold finVC at hh
  split at hh
  · obtain ⟨s', w', g1, g2, _⟩ := esc_sound hh hr1
    have g3 := flush_sound g1 g2
    split at g3
    · rename_i l hl
      split at g3
      · rename_i hpl
        exact ⟨_, results_run ok g2.clean hl hpl, _, rfl, g3⟩
      · cases g3
    · cases g3
  · cases hh

include ok in
theorem fnVC_sound {f : Nat} {fn : Func} {n : Ann} {args : List SV} {w : World} {R : SV → World → Prop} (h : fnVC X fn n args w R) (hf : X.P.funcs[f]? = some fn)
    (hW : writesOK fn = true) (hp : allPlain args = true) (hD : X.D = []) : Ret X.P f args w R := by
  unfold fnVC at h
  unfold writesOK at hW
  cases hb : fn.body with
  | none => rw [hb] at hW; cases hW
  | some c =>
    rw [hb] at h hW
    simp only at h hW
    unfold Ret
    refine calls_of_wp hf hb ?_
    have hrel := start_rel hD hp w (fn.ntmps - (SV.encL args).toArray.size)
    have hN : ∀ t ∈ codeW c, t < ((SV.encL args).toArray ++ Array.replicate (fn.ntmps - (SV.encL args).toArray.size) undef).size := fun t ht => by
      have := List.all_eq_true.1 hW t ht
      simp at this
      simp [encL_length]
      omega
    have key := vc_sound ok c n (start args) w _ w _ _ _ h hrel hN
    refine wp_mono key ?_
    intro e a1 wa1 hpost
    cases e <;> simp only [Post, bodyPost] at hpost ⊢
    case normal =>
      obtain ⟨⟨s1, w1, h1, h2⟩, _⟩ := hpost
      exact ⟨h2.defers.trans hD, fin_run ok h1 h2⟩
    case ret =>
      obtain ⟨s1, w1, h1, h2⟩ := hpost
      exact ⟨h2.defers.trans hD, fin_run ok h1 h2⟩
    case exit i => exact hpost.1.elim fun s1 h => h.elim fun w1 h => h.1

include ok in
theorem resVC_run {s : St} {w : World} {a : Act} {wa : World} (hr : Rel X N s w a wa) : ∀ {rs : List ResultVar} {F : List SV → Prop}, resVC X s wa rs F →
    ∃ l, F l ∧ (allPlain l = true → (rs.mapM (resOne a.tmps)).run X.P wa = .ok (SV.encL l) wa)
  | [], F, h => ⟨[], h, fun _ => by simp [SV.encL]⟩
  | .tmp t :: r, F, h => by
    simp only [resVC] at h
    obtain ⟨x, h1, h2⟩ := ifSome_iff.1 h
    obtain ⟨l, g1, g2⟩ := resVC_run hr h2
    refine ⟨x :: l, g1, fun hp => ?_⟩
    simp only [allPlain, Bool.and_eq_true] at hp
    have hx := (relv_plain hp.1).1 (hr.env t x h1)
    simp only [List.mapM_cons, Sem.run_bind, resOne, Sem.run_pure, Result.andThen_ok, g2 hp.2, hx, SV.encL]
  | .cell b t :: r, F, h => by
    simp only [resVC] at h
    split at h
    · rename_i p hb
      obtain ⟨ad, rfl, h⟩ := deref_iff.1 h
      obtain ⟨x, k1, k2, k3⟩ := mem_load (wa := wa) ok h (loadVC_data h) (fun _ _ h => h)
      obtain ⟨l, g1, g2⟩ := resVC_run hr k2
      refine ⟨x :: l, g1, fun hp => ?_⟩
      simp only [allPlain, Bool.and_eq_true] at hp
      have hv := (relv_plain (x := .ptr (some ad)) rfl).1 (hr.env b _ hb)
      simp only [SV.enc] at hv
      have k4 : (loadVar t ad).run X.P wa = .ok x.enc wa := by
        simpa [Instr.loadAt, Instr.sureAddr] using k3
      simp only [List.mapM_cons, Sem.run_bind, resOne, hv, asAddr, Sem.run_pure, Result.andThen_ok, k4, g2 hp.2, SV.encL]
    · cases h
include ok in
theorem finD_run {N : Nat} {fn : Func} {R : SV → World → Prop} {s : St} {w1 : World} {a1 : Act} {wa1 : World} (hh : finVCD X fn R s w1) (hr1 : Rel X N s w1 a1 wa1) :
    ∃ v, (results fn a1.tmps).run X.P wa1 = .ok v wa1 ∧ (∃ r, (Ending.returned v) = .returned r.enc ∧ R r wa1) := by
  unfold finVCD at hh
  have g := flush_sound hh hr1
  obtain ⟨l, g1, g2⟩ := resVC_run ok hr1.clean g
  split at g1
  · rename_i hp
    have h1 := g2 hp
    have h2 : (fn.results.mapM (resOne a1.tmps)).run X.P wa1 = .ok (SV.encL l).toArray wa1 := by
      rw [Array.mapM_eq_mapM_toList, ← bind_pure_comp, Sem.run_bind, h1]
      simp
    have h3 : results fn a1.tmps = (do let vs ← fn.results.mapM (resOne a1.tmps); pure (if h : vs.size = 1 then vs[0] else .tuple vs)) := by
      unfold results
      congr 1
    refine ⟨(oneOf l).enc, ?_, _, rfl, g1⟩
    rw [h3, Sem.run_bind, h2]
    simp only [Result.andThen_ok, Sem.run_pure]
    congr 1
    match l with
    | [] => simp [oneOf, SV.enc, SV.encL]
    | [x] => simp [oneOf, SV.encL]
    | x :: y :: r => simp [oneOf, SV.enc, SV.encL]
  · cases g1

/-! ### one deferred call -/
theorem relv_D {D : List Deferred} {s : St} {v : Value} {x : SV} : RelV { X with D := D } s v x ↔ RelV X s v x := by cases x <;> exact Iff.rfl
theorem Rel.withD {N : Nat} {s : St} {w : World} {a : Act} {wa : World} (h : Rel X N s w a wa) (D : List Deferred) : Rel { X with D := D } N s w { a with defers := D } wa where
  defers := rfl
  size := h.size
  env := fun t v hv => relv_D.2 (h.env t v hv)
  bx := h.bx
  sep := h.sep
  lp := h.lp
  nb0 := h.nb0
  newIn := h.newIn
  modIn := h.modIn
  idlt := h.idlt
  upd := h.upd
  cln := h.cln
theorem Rel.offD {N : Nat} {D : List Deferred} {s : St} {w : World} {a : Act} {wa : World} (hD : X.D = []) (h : Rel { X with D := D } N s w a wa) : Rel X N s w { a with defers := [] } wa where
  defers := hD.symm
  size := h.size
  env := fun t v hv => relv_D.1 (h.env t v hv)
  bx := h.bx
  sep := h.sep
  lp := h.lp
  nb0 := h.nb0
  newIn := h.newIn
  modIn := h.modIn
  idlt := h.idlt
  upd := h.upd
  cln := h.cln
theorem fieldsOK_D {D : List Deferred} : ∀ {fs : List Field} {ts : List Ty} {off : Nat}, fieldsOK X fs ts off → fieldsOK { X with D := D } fs ts off
  | [], [], _, h => h
  | _ :: _, _ :: _, _, h => ⟨h.1, h.2.1, h.2.2.1, fieldsOK_D h.2.2.2⟩
  | [], _ :: _, _, h => h
  | _ :: _, [], _, h => h
theorem tyOK_D {D : List Deferred} {t : Nat} {T : Ty} (h : tyOK X t T) : tyOK { X with D := D } t T := by
  cases T with
  | struct b ts =>
    cases b with
    | false =>
      obtain ⟨fs, h1, h2, h3⟩ := h
      exact ⟨fs, h1, fieldsOK_D h2, h3⟩
    | true => exact h
  | _ => exact h
include ok in
theorem tabOK_D (D : List Deferred) : TabOK { X with D := D } := ⟨fun t => tyOK_D (ok.ty t), ok.info, ok.eqg, ok.call, ok.mixed⟩

include ok in
theorem opsVC_sound2 {N : Nat} {Q : Exit → Act → World → Prop} {ops : Array Oper} {k : St → World → Prop} {r : List Oper} : ∀ {l : List Oper} {s : St} {w : World} {a : Act} {wa : World}, opsVC X ops.toList l s w k → Rel X N s w a wa → (∀ t ∈ opsW l, t < N) →
    (∀ s' w' a' wa', k s' w' → Rel X N s' w' a' wa' → wpList X.P ops Q r a' wa') → wpList X.P ops Q (l ++ r) a wa
  | [], s, w, a, wa, h, hr, _, hQ => hQ s w a wa h hr
  | o :: l, s, w, a, wa, h, hr, hN, hQ => by
    simp only [opsVC] at h
    have hg := guard_sound h hr
    have hd : ∀ t, o.dst = some t → t < N := fun t ht => hN t (mem_opsW (by simp) ht)
    have hl : ∀ t ∈ opsW l, t < N := fun t ht => hN t (by rw [opsW_cons]; exact List.mem_append_right _ ht)
    rw [List.cons_append]
    unfold wpList
    split
    · rename_i hw
      left
      obtain ⟨s1, hy, hr1, _⟩ := hg.1 hw
      refine Oper.wp_mono ?_ (opVC_sound ok (Q := Q) hy hr1 hd)
      rintro a' wa' ⟨s', w', h1, h2, _, _, v, rfl⟩
      exact opsVC_sound2 h1 h2 hl hQ
    · rename_i hw
      obtain ⟨s1, hn, hr1, _⟩ := hg.2 (by simpa using hw)
      exact opsVC_sound2 hn hr1 hl hQ

theorem split_last {α : Type} : ∀ {l : List α} {o : α}, lastOf l = some o → l = initOf l ++ [o]
  | [], _, h => by cases h
  | [x], o, h => by
    simp only [lastOf, Option.some.injEq] at h
    subst h; rfl
  | x :: y :: r, o, h => by
    simp only [lastOf] at h
    have := split_last (l := y :: r) h
    simp only [initOf, List.cons_append]
    exact congrArg (x :: ·) this
theorem codeW_region {id : Nat} {ops : Array Oper} {d : Bool} : codeW (.region id ops d) = opsW ops.toList := rfl

include ok in
theorem spine_sound (hD : X.D = []) {fn : Func} {R : Ending → World → Prop} {N : Nat} {fe : St → World → Prop} {fl : Nat → List SV → St → World → Prop}
    (Hfe : ∀ s w a wa, fe s w → Rel X N s w a wa → Leaves X.P fn a.tmps R a.defers .returning wa)
    (Hfl : ∀ g cs s w a wa, X.C g = true → fl g cs s w → Rel { X with D := [deferOf g cs] } N s w a wa → Leaves X.P fn a.tmps R a.defers .returning wa) :
    ∀ (c : Code) (n : Ann) (s : St) (w : World) (a : Act) (wa : World), spineVC X fe fl c n s w → Rel X N s w a wa → (∀ t ∈ codeW c, t < N) → c.wp X.P (bodyPostD X.P fn R) a wa := by
  intro c
  induction c with
  | seq x y _ ihy =>
    intro n s w a wa h hr hN
    simp only [codeW, List.mem_append] at hN
    cases n <;> simp only [spineVC] at h <;> try (cases h; done)
    rename_i na nb
    split at h
    · refine wp_seq (wp_mono (vc_sound ok x na s w a wa _ _ _ h hr (fun t ht => hN t (.inl ht))) ?_)
      intro e a1 w1 hp
      cases e <;> simp only [Post, Exit.then] at hp ⊢
      case normal =>
        obtain ⟨⟨s1, w1', g1, g2⟩, _⟩ := hp
        exact ihy nb s1 w1' a1 w1 g1 g2 (fun t ht => hN t (.inr ht))
      case exit i =>
        obtain ⟨⟨s1, w1', g1, _⟩, _⟩ := hp
        exact g1.elim
      case ret =>
        obtain ⟨s1, w1', g1, g2⟩ := hp
        exact Hfe s1 w1' a1 w1 g1 g2
    · split at h
      · rename_i id ops _ _
        split at h
        · rename_i o ho
          refine wp_seq (wp_region_list ?_)
          have hsplit : ops.toList = initOf ops.toList ++ [o] := split_last ho
          have hW : ∀ t ∈ opsW (initOf ops.toList), t < N := fun t ht => hN t (.inl (by
            rw [codeW_region, hsplit]
            have : ∀ (l m : List Oper), t ∈ opsW l → t ∈ opsW (l ++ m) := by
              intro l m
              induction l with
              | nil => intro h; cases h
              | cons x l ih => intro h; rw [List.cons_append, opsW_cons] at *; rcases List.mem_append.1 h with h | h; exact List.mem_append_left _ h; exact List.mem_append_right _ (ih h)
            exact this _ _ ht))
          rw [hsplit]
          refine opsVC_sound2 ok h hr hW ?_
          intro s1 w1 a1 wa1 hd hr1
          unfold deferVC at hd
          split at hd
          · rename_i cc hg hop
            split at hd
            · cases hd
            · rename_i hdst
              split at hd
              · rename_i f hcal hargs
                split at hd
                · rename_i g cs hf
                  split at hd
                  · rename_i hpl
                    simp only [Bool.and_eq_true] at hpl
                    have hk := flush_sound hd hr1
                    have hfv := hr1.ev f _ hf
                    simp only [RelV, SV.enc] at hfv
                    have hrun : (execOp a1.eval o).run X.P wa1 = .ok (.defer (deferOf g cs)) wa1 := by
                      have ha : cc.args = #[] := by
                        have := hargs
                        cases hc : cc.args with
                        | mk l => rw [hc] at this; simp at this; rw [this]
                      simp [execOp, hop, resolve, hcal, hfv, Deferred.ofValue, ha, deferOf]
                    unfold wpList
                    rw [if_pos (by simp [Region.wanted, hg])]
                    left
                    unfold Oper.wp
                    rw [hrun, Oper.upon_defer, hdst]
                    have hdf := hr1.defers
                    rw [hD] at hdf
                    rw [hdf]
                    have hr2 := (hr1.clean).withD [deferOf g cs]
                    have := vc_sound (tabOK_D ok [deferOf g cs]) y nb s1.clean wa1 _ wa1 _ _ _ hk hr2 (fun t ht => hN t (.inr ht))
                    unfold wpList
                    refine wp_mono this ?_
                    intro e a3 w3 hp
                    cases e <;> simp only [Post, bodyPostD] at hp ⊢
                    case normal =>
                      obtain ⟨⟨s4, w4, g1, g2⟩, _⟩ := hp
                      exact Hfl g cs s4 w4 a3 w3 hpl.1 g1 g2
                    case exit i =>
                      obtain ⟨⟨s4, w4, g1, _⟩, _⟩ := hp
                      exact g1.elim
                    case ret =>
                      obtain ⟨s4, w4, g1, g2⟩ := hp
                      exact Hfl g cs s4 w4 a3 w3 hpl.1 g1 g2
                  · cases hd
                · cases hd
              · cases hd
          · cases hd
        · cases h
      · cases h
  | _ => intro n s w a wa h; simp only [spineVC] at h

include ok in
theorem fnVCD_sound {f : Nat} {fn : Func} {n : Ann} {args : List SV} {w : World} {R : SV → World → Prop} (h : fnVCD X fn n args w R) (hf : X.P.funcs[f]? = some fn)
    (hW : writesOK fn = true) (hp : allPlain args = true) (hD : X.D = []) : Ret X.P f args w R := by
  unfold fnVCD at h
  unfold writesOK at hW
  cases hb : fn.body with
  | none => rw [hb] at hW; cases hW
  | some c =>
    rw [hb] at h hW
    simp only at h hW
    unfold Ret
    refine calls_of_wp_defers hf hb ?_
    have hrel := start_rel hD hp w (fn.ntmps - (SV.encL args).toArray.size)
    have hN : ∀ t ∈ codeW c, t < ((SV.encL args).toArray ++ Array.replicate (fn.ntmps - (SV.encL args).toArray.size) undef).size := fun t ht => by
      have := List.all_eq_true.1 hW t ht
      simp at this
      simp [encL_length]
      omega
    refine spine_sound ok hD ?_ ?_ c n (start args) w _ w h hrel hN
    · intro s w1 a wa h1 h2
      rw [h2.defers, hD]
      exact fin_run ok h1 h2
    · intro g cs s w1 a wa hC h1 h2
      rw [h2.defers]
      have h3 := flush_sound h1 h2
      obtain ⟨fn', hfn, hbody, hname⟩ := ok.call g hC
      have hname' : ¬ (fn'.name = "runtime.NumGoroutine") := by simpa using hname
      have hb' : ¬ fn'.body = none := by intro e; rw [e] at hbody; cases hbody
      refine ⟨by simp, .func g, (SV.encL cs).toArray, g, (SV.encL cs).toArray, rfl, ?_, ?_⟩
      · simp [deferOf, invoke, callFunc, run_program, hfn, hname', hb']
      · intro c0 cs0 hm
        obtain ⟨e, u', w', fr, ⟨⟨v, rfl⟩, rfl, hQ⟩, hrest⟩ := h3 c0 cs0 hm
        refine ⟨_, _, w', fr, ?_, hrest⟩
        rw [live_clean] at hQ
        obtain ⟨hK, hkeep⟩ := keeps_live h2.clean hQ
        have hw := h2.clean.world (w2 := w') (fun i b t c hb => hkeep b (live_of hb (h2.bx i b t c hb).1))
        exact finD_run (a1 := { a with defers := [] }) ok hK (hw.offD hD)
end
end Go.Vc
end

section
namespace Go.Vc
set_option linter.unusedSimpArgs false
set_option linter.unusedVariables false
set_option autoImplicit false

/-! ### the table of types is right: what the kernel counts -/
def sameCell : Value → Value → Bool
  | .int k n, .int k' n' => ksame k k' && decide (n = n')
  | .bool true, .bool true => true
  | .bool false, .bool false => true
  | .string s, .string s' => (match s, s' with | ⟨⟨[]⟩⟩, ⟨⟨[]⟩⟩ => true | _, _ => false)
  | .pointer none, .pointer none => true
  | .slice none n c, .slice none n' c' => Nat.beq n n' && Nat.beq c c'
  | .map none, .map none => true
  | _, _ => false
def sameCells : List Value → List Value → Bool
  | [], [] => true
  | x :: r, y :: s => sameCell x y && sameCells r s
  | _, _ => false

theorem sameCell_eq {a b : Value} (h : sameCell a b = true) : a = b := by
  unfold sameCell at h
  split at h
  · simp only [Bool.and_eq_true, decide_eq_true_eq] at h
    rw [ksame_eq h.1, h.2]
  · rfl
  · rfl
  · split at h
    · rfl
    · cases h
  · rfl
  · simp only [Bool.and_eq_true] at h
    rw [nbeq.1 h.1, nbeq.1 h.2]
  · rfl
  · cases h
theorem sameCells_eq : ∀ {a b : List Value}, sameCells a b = true → a = b
  | [], [], _ => rfl
  | [], _ :: _, h => by simp [sameCells] at h
  | _ :: _, [], h => by simp [sameCells] at h
  | x :: r, y :: s, h => by
    simp only [sameCells, Bool.and_eq_true] at h
    rw [sameCell_eq h.1, sameCells_eq h.2]

def zeroOKb (t : Ty) (o : Option Value) : Bool :=
  match t.zero with
  | none => true
  | some z => match o with
    | some v => match isAggTy t with
      | true => (match v with | .agg cs => sameCells cs.toList z.cells | _ => false)
      | false => sameCells [v] z.cells
    | none => false

theorem zeroOKb_eq {t : Ty} {o : Option Value} (h : zeroOKb t o = true) : ∀ z, t.zero = some z → o = some z.enc := by
  intro z hz
  unfold zeroOKb at h
  rw [hz] at h
  cases o with
  | none => cases h
  | some v =>
    simp only at h
    have hs := zero_shape hz
    cases ha : isAggTy t with
    | true =>
      rw [ha] at h
      cases v <;> simp only at h <;> try (cases h; done)
      rename_i cs
      rw [enc_agg hs ha, ← sameCells_eq h]
    | false =>
      rw [ha] at h
      simp only at h
      have := sameCells_eq h
      rw [enc_scalar hs ha] at this
      simp at this
      rw [this]

def infoOKb (X : Tab) (t : Nat) : Bool :=
  match isData (X.T t) with
  | true => match X.P.info? t with
    | some i => Nat.beq i.size (X.T t).size && Nat.beq i.bytes (X.B t) && zeroOKb (X.T t) i.zero
    | none => false
  | false => true

def fieldsOKb (X : Tab) : List Field → List Ty → Nat → Bool
  | [], [], _ => true
  | f :: fr, t :: tr, off => Nat.beq f.offset off && (X.T f.type).same t && !(f.name == "_") && fieldsOKb X fr tr (off + t.size)
  | _, _, _ => false

def tyOKb (X : Tab) (t : Nat) : Ty → Bool
  | .int k => match X.P.underlying t with | some (.int k') => ksame k' k | _ => false
  | .bool => match X.P.underlying t with | some .bool => true | _ => false
  | .str => match X.P.underlying t with | some .string => true | _ => false
  | .ptr e => match X.P.underlying t with | some (.pointer e') => Nat.beq e' e | _ => false
  | .slice e => match X.P.underlying t with | some (.slice e') => Nat.beq e' e | _ => false
  | .map => match X.P.underlying t with | some (.map _ _) => true | _ => false
  | .arr k n => match X.P.underlying t with | some (.array n' e) => Nat.beq n' n && (X.T e).same (.int k) | _ => false
  | .struct false ts => (match X.P.underlying t with | some (.struct fs) => fieldsOKb X fs.toList ts 0 | _ => false) && !X.P.stoodInHeld t
  | .struct true ts => match X.P.underlying t with | some (.array n e) => Ty.sames ts (List.replicate n (X.T e)) && isData (X.T e) | _ => false
  | _ => true

theorem fieldsOKb_eq {X : Tab} : ∀ {fs : List Field} {ts : List Ty} {off : Nat}, fieldsOKb X fs ts off = true → fieldsOK X fs ts off
  | [], [], _, _ => trivial
  | [], _ :: _, _, h => by simp [fieldsOKb] at h
  | _ :: _, [], _, h => by simp [fieldsOKb] at h
  | f :: fr, t :: tr, off, h => by
    simp only [fieldsOKb, Bool.and_eq_true, Bool.not_eq_true'] at h
    exact ⟨nbeq.1 h.1.1.1, Ty.same_eq h.1.1.2, h.1.2, fieldsOKb_eq h.2⟩

theorem tyOKb_eq {X : Tab} {t : Nat} {T : Ty} (h : tyOKb X t T = true) : tyOK X t T := by
  unfold tyOKb at h
  unfold tyOK
  split at h
  case h_1 k =>
    split at h
    · rename_i k' e; rw [e, ksame_eq h]
    · cases h
  case h_2 => split at h <;> first | assumption | cases h
  case h_3 => split at h <;> first | assumption | cases h
  case h_4 e =>
    split at h
    · rename_i k' e; rw [e, nbeq.1 h]
    · cases h
  case h_5 e =>
    split at h
    · rename_i k' e; rw [e, nbeq.1 h]
    · cases h
  case h_6 =>
    split at h
    · rename_i k e he; exact ⟨k, e, he⟩
    · cases h
  case h_7 k n =>
    split at h
    · rename_i n' e he
      simp only [Bool.and_eq_true] at h
      refine ⟨e, ?_, Ty.same_eq h.2⟩
      rw [he, nbeq.1 h.1]
    · cases h
  case h_8 ts =>
    simp only [Bool.and_eq_true, Bool.not_eq_true'] at h
    obtain ⟨h1, h2⟩ := h
    split at h1
    · rename_i fs he
      exact ⟨fs, he, fieldsOKb_eq h1, h2⟩
    · cases h1
  case h_9 ts =>
    split at h
    · rename_i n e he
      simp only [Bool.and_eq_true] at h
      exact ⟨n, e, he, Ty.sames_eq h.1, h.2⟩
    · cases h
  case h_10 h1 h2 h3 h4 h5 h6 h7 h8 h9 =>
    cases T <;> simp_all

/-- one type -/
def oneOKb (X : Tab) (t : Nat) : Bool := tyOKb X t (X.T t) && infoOKb X t && (!(X.T t).cmp || !X.P.eqGuardType X.P.depth t)
def downAll (f : Nat → Bool) : Nat → Bool
  | 0 => true
  | n + 1 => f n && downAll f n
def callOKb (X : Tab) (f : Nat) : Bool :=
  match X.C f with
  | true => match X.P.funcs[f]? with
    | some fn => !fn.body.isNone && !(fn.name == "runtime.NumGoroutine")
    | none => false
  | false => true

theorem downAll_spec {f : Nat → Bool} : ∀ {n : Nat}, downAll f n = true → ∀ i, i < n → f i = true
  | 0, _, i, hi => by omega
  | n + 1, h, i, hi => by
    simp only [downAll, Bool.and_eq_true] at h
    by_cases e : i = n
    · subst e; exact h.1
    · exact downAll_spec h.2 i (by omega)

def nthD {α : Type} (d : α) : List α → Nat → α
  | [], _ => d
  | x :: _, 0 => x
  | _ :: r, n + 1 => nthD d r n
theorem nthD_out {α : Type} {d : α} : ∀ {l : List α} {n : Nat}, l.length ≤ n → nthD d l n = d
  | [], n, _ => by cases n <;> rfl
  | x :: r, 0, h => by simp at h
  | x :: r, n + 1, h => by simpa [nthD] using nthD_out (l := r) (by simpa using h)

/-- the table: types, their bytes, the functions that may be called -/
def tabOf (P : Program) (ts : List Ty) (bs : List Nat) (cs : List Bool) : Tab := { P, T := nthD .other ts, B := nthD 0 bs, C := nthD false cs, D := [] }

def tabOKb (P : Program) (ts : List Ty) (bs : List Nat) (cs : List Bool) : Bool :=
  downAll (oneOKb (tabOf P ts bs cs)) ts.length && downAll (callOKb (tabOf P ts bs cs)) cs.length && P.follows .mixedOrders

theorem tabOK_of {P : Program} {ts : List Ty} {bs : List Nat} {cs : List Bool} (h : tabOKb P ts bs cs = true) : TabOK (tabOf P ts bs cs) := by
  simp only [tabOKb, Bool.and_eq_true] at h
  obtain ⟨⟨h1, h2⟩, h3⟩ := h
  have one : ∀ t, t < ts.length → oneOKb (tabOf P ts bs cs) t = true := downAll_spec h1
  have out : ∀ t, ¬ t < ts.length → (tabOf P ts bs cs).T t = .other := fun t ht => nthD_out (by omega)
  have spl : ∀ t, t < ts.length → tyOKb (tabOf P ts bs cs) t ((tabOf P ts bs cs).T t) = true ∧ infoOKb (tabOf P ts bs cs) t = true ∧ (((tabOf P ts bs cs).T t).cmp = false ∨ P.eqGuardType P.depth t = false) := by
    intro t ht
    have := one t ht
    simp only [oneOKb, Bool.and_eq_true, Bool.or_eq_true, Bool.not_eq_true'] at this
    exact ⟨this.1.1, this.1.2, this.2⟩
  exact {
    ty := fun t => by
      by_cases ht : t < ts.length
      · exact tyOKb_eq (spl t ht).1
      · rw [out t ht]; trivial
    info := fun t hd => by
      by_cases ht : t < ts.length
      · have := (spl t ht).2.1
        unfold infoOKb at this
        rw [hd] at this
        simp only at this
        split at this
        · rename_i i hi
          simp only [Bool.and_eq_true] at this
          exact ⟨i, hi, nbeq.1 this.1.1, nbeq.1 this.1.2, zeroOKb_eq this.2⟩
        · cases this
      · rw [out t ht] at hd; cases hd
    eqg := fun t hc => by
      by_cases ht : t < ts.length
      · rcases (spl t ht).2.2 with h | h
        · rw [h] at hc; cases hc
        · exact h
      · rw [out t ht] at hc; cases hc
    call := fun f hf => by
      by_cases hlt : f < cs.length
      · have := downAll_spec h2 f hlt
        unfold callOKb at this
        rw [hf] at this
        simp only at this
        split at this
        · rename_i fn hfn
          simp only [Bool.and_eq_true, Bool.not_eq_true'] at this
          exact ⟨fn, hfn, this.1, this.2⟩
        · cases this
      · have : (tabOf P ts bs cs).C f = false := nthD_out (by omega)
        rw [this] at hf; cases hf
    mixed := h3 }
end Go.Vc
end

section
open Go Go.Vc Go.Proofs
namespace Go.Vc.S9

def tTs : List Ty := [(.tuple []),
  .other,
  (.int .i64),
  (.int .i64),
  .bool,
  (.int .u8),
  (.int .u8),
  (.struct false [(.int .i64), (.int .i64), .bool, (.int .u8)]),
  (.struct false [(.int .i64), (.int .i64), .bool, (.int .u8)]),
  .str,
  .str,
  .str,
  (.int .u64),
  .other,
  .other,
  (.ptr 154),
  (.ptr 157),
  (.ptr 167),
  .other,
  .other,
  .other,
  (.int .i32),
  (.slice 112),
  .other,
  .other,
  (.arr .u8 16),
  (.struct false [(.int .i64), (.arr .u8 16)]),
  (.struct false [(.int .i64), (.arr .u8 16)]),
  (.slice 5),
  (.struct false [(.int .i64), (.int .i64), .bool, (.slice 5)]),
  (.struct false [(.int .i64), (.int .i64), .bool, (.slice 5)]),
  .other,
  (.int .i64),
  (.tuple [(.slice 5), (.int .i64)]),
  .other,
  .other,
  (.tuple [(.struct false [(.int .i64), (.int .i64), .bool, (.slice 5)]), (.int .i64)]),
  .other,
  .other,
  .other,
  .other,
  .other,
  .other,
  (.slice 60),
  (.struct false [(.int .i64), (.int .i64), (.int .i64), (.int .i64), (.int .i64), (.int .i64), (.int .i64), (.slice 60), (.slice 5)]),
  (.struct false [(.int .i64), (.int .i64), (.int .i64), (.int .i64), (.int .i64), (.int .i64), (.int .i64), (.slice 60), (.slice 5)]),
  .other,
  (.tuple [(.struct false [(.int .i64), (.int .i64), (.int .i64), (.int .i64), (.int .i64), (.int .i64), (.int .i64), (.slice 60), (.slice 5)]), (.int .i64)]),
  .other,
  .other,
  .other,
  .other,
  .other,
  .other,
  .other,
  .other,
  .other,
  (.tuple [(.slice 60), (.int .i64)]),
  .other,
  (.struct false [(.int .i64), (.slice 5)]),
  (.struct false [(.int .i64), (.slice 5)]),
  .other,
  .other,
  (.tuple [(.int .i64), .bool]),
  .other,
  .other,
  .other,
  .other,
  .other,
  (.slice 28),
  .other,
  (.slice 69),
  .other,
  (.slice 91),
  (.ptr 76),
  (.struct false [(.slice 5), (.int .i64)]),
  (.struct false [(.slice 5), (.int .i64)]),
  (.ptr 80),
  (.slice 43),
  (.struct false [(.slice 43), (.slice 43)]),
  (.struct false [(.slice 43), (.slice 43)]),
  (.tuple [(.struct false [(.int .i64), (.int .i64), .bool, (.slice 5)]), (.int .i64)]),
  .other,
  (.tuple [(.struct false [(.int .i64), (.int .i64), (.int .i64), (.int .i64), (.int .i64), (.int .i64), (.int .i64), (.slice 60), (.slice 5)]), (.int .i64)]),
  .other,
  (.tuple [(.slice 60), (.int .i64)]),
  .other,
  .other,
  .other,
  .other,
  .other,
  (.arr .i64 2),
  .other,
  (.ptr 96),
  (.slice 74),
  (.struct false [(.slice 60), (.int .i64), (.slice 74)]),
  (.struct false [(.slice 60), (.int .i64), (.slice 74)]),
  (.ptr 99),
  (.struct false [(.slice 28), (.slice 28)]),
  (.struct false [(.slice 28), (.slice 28)]),
  .other,
  (.tuple [(.slice 5), (.int .i64)]),
  .other,
  .other,
  .other,
  .other,
  .other,
  .other,
  .other,
  .other,
  .other,
  (.struct false [(.int .i64), (.struct false [(.int .i64), (.arr .u8 16)]), (.struct false [(.int .i64), (.arr .u8 16)]), (.slice 5), (.struct false [(.int .i64), (.int .i64), .bool, (.slice 5)]), (.struct false [(.int .i64), (.int .i64), (.int .i64), (.int .i64), (.int .i64), (.int .i64), (.int .i64), (.slice 60), (.slice 5)]), (.slice 60), (.int .i64)]),
  (.struct false [(.int .i64), (.struct false [(.int .i64), (.arr .u8 16)]), (.struct false [(.int .i64), (.arr .u8 16)]), (.slice 5), (.struct false [(.int .i64), (.int .i64), .bool, (.slice 5)]), (.struct false [(.int .i64), (.int .i64), (.int .i64), (.int .i64), (.int .i64), (.int .i64), (.int .i64), (.slice 60), (.slice 5)]), (.slice 60), (.int .i64)]),
  .other,
  (.tuple [(.struct false [(.int .i64), (.arr .u8 16)]), (.struct false [(.int .i64), (.arr .u8 16)])]),
  .other,
  .other,
  (.arr .i64 4),
  .other,
  (.slice 3),
  .other,
  (.int .u64),
  (.tuple [(.slice 3), (.int .i64), (.int .i64)]),
  .other,
  .other,
  .other,
  .other,
  (.arr .i64 10),
  .other,
  .other,
  .other,
  .other,
  .other,
  .other,
  .other,
  .other,
  .other,
  .other,
  (.tuple [(.slice 60), (.slice 28)]),
  .other,
  .other,
  (.tuple [(.int .i64), (.int .i64)]),
  .other,
  .other,
  .other,
  (.int .u64),
  (.arr .u64 9),
  .other,
  .other,
  .other,
  (.struct false []),
  (.struct false []),
  .other,
  .other,
  .other,
  (.struct true []),
  .other,
  .other,
  .other,
  (.int .u32),
  (.int .u8),
  (.int .u8),
  .other,
  (.ptr 5),
  (.int .i32),
  (.int .i32),
  .other,
  .other,
  .other]
def tBs : List Nat := [0, 8, 8, 8, 1, 1, 1, 24, 24, 16, 16, 16, 8, 24, 24, 8, 8, 8, 8, 8, 16, 4, 24, 8, 8, 16, 24, 24, 24, 48, 48, 8, 8, 0, 8, 8, 0, 8, 8, 8, 8, 8, 8, 24, 104, 104, 8, 0, 8, 8, 8, 8, 8, 8, 8, 8, 8, 0, 8, 32, 32, 8, 8, 0, 8, 8, 8, 8, 8, 24, 8, 24, 8, 24, 8, 32, 32, 8, 24, 48, 48, 0, 8, 0, 8, 0, 8, 8, 8, 8, 8, 16, 8, 8, 24, 56, 56, 8, 48, 48, 8, 0, 8, 8, 8, 8, 8, 8, 8, 8, 8, 264, 264, 8, 0, 8, 8, 32, 8, 24, 8, 8, 0, 8, 8, 8, 8, 80, 8, 8, 8, 8, 8, 8, 8, 8, 8, 8, 0, 8, 8, 0, 8, 8, 8, 8, 72, 8, 8, 8, 0, 0, 8, 40, 40, 0, 0, 0, 8, 4, 1, 1, 8, 8, 4, 4, 48, 48, 8]
def tCs : List Bool := [false, false, true, true, true, true, true, true, true, true, true, true, true, true, true, true, true, true, true, true, true, true, true, true, true, true, true, true, true, true, true, true, true, true, true, true, true, true, true, true, true, true, true, true, true, true, true, true, true, true, true, true, true, true, true, true, true, true, true, true, true, true, true, true, true, true, true, true, true, true, true, true, true, true, true, true, true, true, true, true, true, true, true, true, true, true, true, true, true, true, true, true, true, true, true, true, true, true, true, true, true, true, true, true, true, true, true, true, false, false, false, false, false, false, false, false, false, false, false, false, false, false, false, false, false, false, false, false, false, false, false, true]
noncomputable def X : Tab := tabOf Tryd.prog tTs tBs tCs
theorem X_ok : TabOK X := tabOK_of (by kernel_rfl)

end Go.Vc.S9
end

section
open Go Go.Vc
namespace Go.Vc.S9
/-- weir/weirlaw9.L4Lent -/
def a16 : Ann := (.seq .leaf (.seq (.seq .leaf (.cond (.seq .leaf .leaf) .leaf)) (.seq .leaf (.seq .leaf (.seq .leaf (.seq .leaf (.seq .leaf (.seq .leaf (.seq .leaf (.seq (.seq .leaf (.block (.loopF [6, 7, 8, 9, 10] [(.t 20, (.int .i64))] [0, 1, 2, 3, 4, 5] (.cut [] [0, 1, 2, 3, 4, 5] (.seq .leaf (.cond .leaf .leaf)) (.cut [] [0, 1, 2, 3, 4, 5] (.block (.seq .leaf (.seq .leaf (.seq .leaf (.seq .leaf (.seq .leaf (.seq (.seq .leaf (.block (.loop [(.t 23, (.int .i64))] [0, 1, 2, 3, 4, 5, 11, 12] (.seq (.seq .leaf (.cond .leaf .leaf)) (.cut [] [0, 1, 2, 3, 4, 5, 11, 12] (.block (.seq .leaf (.seq .leaf (.seq .leaf (.seq .leaf (.seq .leaf (.seq (.draw (.early 0 (.early 1 (.early 2 (.fork [(3, (.fork [(4, (.early 5 (.early 6 (.early 7 (.early 8 (.early 9 .done))))))]))]))))) (.seq (.draw (.early 0 (.early 1 (.early 2 (.fork [(3, (.fork [(4, (.early 5 (.early 6 (.early 7 (.early 8 (.early 9 .done))))))]))]))))) (.seq .leaf (.seq .leaf (.seq .leaf (.cut [] [0, 1, 2, 3, 4, 5, 11, 12, 13, 14] (.seq .leaf (.cond (.seq .leaf .leaf) .leaf)) (.cut [] [0, 1, 2, 3, 4, 5, 11, 12, 13, 14] (.seq (.draw (.early 0 (.early 1 (.early 2 (.early 5 (.early 6 (.early 7 (.fork [(3, (.fork [(4, (.fork [(8, (.early 9 (.early 10 (.early 11 (.early 14 (.fork [(12, (.fork [(13, (.fork [(15, (.early 16 (.early 17 .done)))]))]))]))))))]))]))])))))))) (.cond (.seq .leaf .leaf) .leaf)) (.seq .leaf (.seq .leaf (.seq .leaf (.seq (.seq .leaf (.block (.loop [(.t 42, (.int .i64))] [0, 1, 2, 3, 4, 5, 11, 12, 13, 14] (.seq (.seq .leaf (.cond .leaf .leaf)) (.seq (.block .leaf) .leaf))))) (.seq .leaf (.seq .leaf (.cond (.seq .leaf .leaf) .leaf)))))))))))))))))))) .leaf))))) (.seq .leaf (.cond (.seq (.draw (.early 0 (.early 1 (.early 2 (.early 3 (.early 4 (.early 5 (.fork [(6, .done)])))))))) (.draw (.early 0 (.early 1 (.early 2 (.early 3 (.early 4 (.early 5 (.early 6 (.early 7 (.fork [(8, .done)]))))))))))) .leaf))))))))) .leaf))))) (.seq .leaf .leaf)))))))))))
/-- weir/weirlaw9.started -/
def a18 : Ann := (.seq .leaf (.seq .leaf (.seq .leaf (.seq .leaf (.seq .leaf (.seq .leaf (.seq .leaf (.seq .leaf (.seq .leaf (.seq .leaf (.seq .leaf (.seq .leaf (.cut [(.t 19, .bool)] [0, 1, 2, 3, 4, 5, 6, 7] .leaf (.seq .leaf .leaf))))))))))))))
/-- weir/l4.PutUdp -/
def a19 : Ann := (.seq .leaf (.seq .leaf (.cut [(.t 8, (.int .i64))] [0, 1, 2] (.seq .leaf (.cond .leaf .leaf)) (.seq (.seq .leaf (.cond (.seq .leaf .leaf) .leaf)) (.seq .leaf (.seq (.drawF [3] (.early 1 (.early 2 (.early 3 (.early 4 (.early 5 (.early 6 (.early 7 (.early 8 (.fork [(0, (.fork [(9, (.fork [(10, (.early 11 (.early 12 (.early 13 (.early 14 (.early 15 .done))))))]))])), (9, (.fork [(0, (.fork [(10, (.early 11 (.early 12 (.early 13 (.early 14 (.early 15 .done))))))]))]))])))))))))) (.seq .leaf (.seq (.seq .leaf (.cond (.seq .leaf .leaf) .leaf)) (.seq .leaf (.seq .leaf (.cut [(.t 14, (.int .i64))] [0, 1, 2] (.seq .leaf (.cond .leaf .leaf)) (.seq .leaf (.seq .leaf .leaf)))))))))))))
/-- weir/weirlaw9.num -/
def a20 : Ann := (.seq .leaf (.seq .leaf .leaf))
/-- weir/l4.ParseUdp -/
def a21 : Ann := (.seq .leaf (.seq (.seq .leaf (.cond (.seq .leaf .leaf) .leaf)) (.seq (.seq .leaf (.seq .leaf (.cond (.seq .leaf .leaf) .leaf))) (.seq (.seq .leaf (.cond (.seq .leaf .leaf) .leaf)) (.seq .leaf (.seq .leaf (.seq (.draw (.early 0 (.early 1 (.early 2 (.early 3 (.early 4 (.early 5 (.early 6 (.early 7 (.early 8 .done)))))))))) (.cut [(.b 2, (.struct false [(.int .i64), (.int .i64), .bool, (.slice 5)]))] [0, 1] (.block (.seq .leaf (.cond (.seq .leaf .leaf) (.cut [(.t 55, .bool)] [0, 1, 2] (.seq .leaf (.cond .leaf (.draw (.early 0 (.early 1 (.early 2 (.early 3 (.early 4 (.early 5 (.early 6 (.early 7 (.fork [(8, (.early 9 (.early 10 (.early 11 .done))))])))))))))))) (.cond (.seq .leaf .leaf) .leaf))))) (.seq (.draw (.early 0 (.early 1 (.early 2 (.early 3 (.early 4 (.early 5 (.early 6 (.early 7 (.early 8 (.early 9 (.early 10 (.early 11 (.fork [(12, (.early 13 .done))])))))))))))))) .leaf)))))))))
/-- weir/sum.Pseudo -/
def a22 : Ann := (.seq .leaf (.seq .leaf (.cut [] [0, 1] (.block (.seq .leaf (.cond (.seq .leaf .leaf) (.seq .leaf (.cond (.seq .leaf .leaf) .leaf))))) (.seq .leaf (.seq (.seq .leaf (.cond (.seq .leaf (.seq .leaf (.seq .leaf .leaf))) .leaf)) (.seq .leaf (.seq .leaf (.seq .leaf .leaf))))))))
/-- weir/weirref9.SameUdp -/
def a23 : Ann := (.seq .leaf (.seq .leaf .leaf))
/-- weir/sum.Good -/
def a24 : Ann := (.seq .leaf (.seq .leaf .leaf))
/-- weir/l4.CheckUdp -/
def a25 : Ann := (.seq .leaf (.seq (.block (.seq .leaf (.cond (.seq .leaf .leaf) (.seq .leaf (.cond (.seq .leaf .leaf) (.seq .leaf (.cond (.seq .leaf .leaf) .leaf))))))) (.seq .leaf .leaf)))
/-- weir/l4.PutTcp -/
def a26 : Ann := (.seq .leaf (.seq .leaf (.cut [(.t 8, (.int .i64))] [0, 1, 2] (.seq .leaf (.cond .leaf .leaf)) (.seq (.seq .leaf (.cond (.seq .leaf .leaf) .leaf)) (.seq .leaf (.seq .leaf (.seq (.drawF [3] (.early 1 (.early 2 (.early 3 (.early 4 (.early 5 (.early 6 (.early 7 (.early 8 (.early 9 (.early 10 (.early 11 (.early 12 (.early 13 (.early 14 (.early 15 (.early 16 (.early 17 (.early 18 (.fork [(0, (.fork [(19, (.fork [(20, (.early 21 (.early 22 (.early 23 (.early 24 (.early 25 .done))))))]))])), (19, (.fork [(0, (.fork [(20, (.early 21 (.early 22 (.early 23 (.early 24 (.early 25 .done))))))]))]))])))))))))))))))))))) (.seq .leaf (.seq .leaf (.seq .leaf (.seq .leaf (.seq .leaf (.seq .leaf .leaf)))))))))))))
/-- weir/l4.ParseTcp -/
def a27 : Ann := (.seq .leaf (.seq (.seq .leaf (.cond (.seq .leaf .leaf) .leaf)) (.seq (.seq .leaf (.seq .leaf (.cond (.seq .leaf .leaf) .leaf))) (.seq (.seq .leaf (.cond (.seq .leaf .leaf) .leaf)) (.seq .leaf (.seq .leaf (.seq .leaf (.cut [(.b 2, (.struct false [(.int .i64), (.int .i64), (.int .i64), (.int .i64), (.int .i64), (.int .i64), (.int .i64), (.slice 60), (.slice 5)]))] [0, 1] (.block (.seq .leaf (.cond (.seq .leaf .leaf) (.seq .leaf (.cond (.seq .leaf .leaf) .leaf))))) (.seq .leaf (.seq (.seq .leaf (.cond (.seq .leaf .leaf) .leaf)) (.seq (.draw (.early 0 (.early 1 (.early 2 (.early 3 (.early 4 (.early 5 (.early 6 (.early 7 (.early 8 (.early 9 (.early 10 (.early 11 (.early 12 (.early 13 (.early 14 (.early 15 (.early 16 (.early 17 (.early 18 (.early 19 (.early 20 (.early 21 (.early 22 (.early 23 (.early 24 (.early 25 (.early 26 (.early 27 (.early 28 (.early 29 (.fork [(30, (.early 31 .done))])))))))))))))))))))))))))))))))) .leaf)))))))))))
/-- weir/weirref9.SameTcp -/
def a28 : Ann := (.seq .leaf (.cut [] [0, 1] (.seq .leaf (.cond (.seq .leaf .leaf) .leaf)) (.seq .leaf .leaf)))
/-- weir/l4.CheckTcp -/
def a29 : Ann := (.seq .leaf (.cut [] [0] (.seq .leaf (.cond (.seq .leaf .leaf) .leaf)) (.seq .leaf (.seq (.seq .leaf (.cond (.seq .leaf .leaf) .leaf)) (.seq (.seq .leaf (.cond (.seq .leaf .leaf) .leaf)) (.seq .leaf .leaf))))))
/-- weir/weirref6.Alike -/
def a30 : Ann := (.seq .leaf (.seq .leaf .leaf))
/-- weir/l4.TcpOptions -/
def a33 : Ann := (.seq .leaf (.seq (.seq .leaf (.cond (.seq .leaf .leaf) .leaf)) (.seq .leaf (.cut [(.t 4, (.slice 60))] [] (.seq .leaf (.block (.loop [(.t 4, (.slice 60)), (.t 5, (.int .i64))] [] (.seq (.seq .leaf (.cond .leaf .leaf)) (.block (.seq .leaf (.seq (.seq .leaf (.cond .leaf .leaf)) (.seq (.seq .leaf (.cond (.seq .leaf .leaf) .leaf)) (.seq (.seq .leaf (.cond (.seq .leaf .leaf) .leaf)) (.seq .leaf (.cut [] [] (.seq .leaf (.cond (.seq .leaf .leaf) .leaf)) (.seq .leaf .leaf)))))))))))) (.seq .leaf .leaf)))))
/-- weir/l4.Clamp -/
def a35 : Ann := (.seq .leaf (.seq .leaf (.seq .leaf (.seq (.seq .leaf (.block (.loop [(.t 5, (.slice 60)), (.t 15, (.int .i64))] [0, 1] (.seq .leaf (.seq (.cond .leaf .leaf) (.seq (.block (.seq .leaf (.seq .leaf (.cut [(.b 2, (.struct false [(.int .i64), (.slice 5)]))] [0, 1] (.seq .leaf (.seq .leaf (.cond .leaf .leaf))) .leaf)))) .leaf)))))) (.seq .leaf (.seq .leaf .leaf))))))
/-- weir/l4.Mss -/
def a36 : Ann := (.seq .leaf (.seq (.seq .leaf (.block (.loop [(.t 11, (.int .i64))] [0] (.seq .leaf (.seq (.cond .leaf .leaf) (.seq (.block (.seq .leaf (.seq .leaf (.seq .leaf (.cond (.seq .leaf .leaf) .leaf))))) .leaf)))))) (.seq .leaf .leaf)))
/-- weir/weirref9.CloneUdp -/
def a37 : Ann := (.seq .leaf (.seq .leaf (.seq .leaf .leaf)))
/-- weir/weirref9.CloneTcp -/
def a38 : Ann := (.seq .leaf (.seq .leaf (.seq .leaf (.seq .leaf .leaf))))
/-- weir/l4.PutTcpOptions -/
def a39 : Ann := (.seq .leaf (.seq .leaf (.seq (.seq .leaf (.block (.loop [(.t 4, (.slice 5)), (.t 10, (.int .i64))] [] (.seq .leaf (.seq (.cond .leaf .leaf) (.seq (.block (.seq .leaf (.seq .leaf (.cut [] [0] (.seq .leaf (.cond (.seq .leaf .leaf) .leaf)) (.seq .leaf .leaf))))) .leaf)))))) (.seq (.block (.loop [(.t 4, (.slice 5))] [] (.seq (.seq .leaf (.cond .leaf .leaf)) (.block .leaf)))) (.seq .leaf .leaf)))))
/-- weir/weirref6.Copied -/
def a40 : Ann := (.seq .leaf (.seq .leaf (.seq .leaf .leaf)))
/-- (*weir/weirlaw3.Desk).Lend -/
def a43 : Ann := (.seq .leaf (.cut [] [] (.seq .leaf (.cond .leaf .leaf)) (.seq (.seq .leaf (.block (.loop [(.t 5, (.int .i64))] [] (.seq (.seq .leaf (.cond .leaf .leaf)) (.seq (.block (.draw (.early 0 (.early 1 (.early 2 (.early 3 (.early 4 (.early 5 (.fork [(6, (.early 7 (.fork [(8, .done)])))]))))))))) .leaf))))) (.seq .leaf (.seq .leaf (.seq .leaf .leaf))))))
/-- weir/weirref6.SameOpts -/
def a47 : Ann := (.seq .leaf (.seq (.seq .leaf (.cond (.seq .leaf .leaf) .leaf)) (.seq (.seq .leaf (.block (.loop [(.t 5, (.int .i64))] [] (.seq (.seq .leaf (.cond .leaf .leaf)) (.cut [] [] (.block (.seq (.draw (.early 0 (.early 1 (.early 2 (.early 3 (.early 4 (.early 5 (.early 6 (.early 7 (.early 8 (.early 9 (.fork [(10, (.early 11 .done))])))))))))))) (.seq (.draw (.early 0 (.early 1 (.early 2 (.early 3 (.early 4 (.early 5 (.early 6 (.early 7 (.early 8 (.early 9 (.early 10 (.early 11 (.early 12 (.early 13 (.early 14 .done)))))))))))))))) (.cond (.seq .leaf .leaf) .leaf)))) .leaf))))) (.seq .leaf .leaf))))
/-- (*weir/weirlaw3.Desk).Back -/
def a48 : Ann := (.seq .leaf (.cut [] [] (.seq (.draw (.early 0 (.early 1 (.early 2 (.early 3 (.early 4 (.early 5 (.early 6 (.early 7 (.early 8 (.early 9 (.early 10 (.early 11 (.early 12 (.early 13 (.early 14 (.early 15 (.early 16 (.early 17 (.fork [(18, (.early 19 (.early 20 .done)))])))))))))))))))))))) (.cond (.seq .leaf .leaf) .leaf)) (.seq (.seq .leaf (.block (.loop [(.t 5, (.int .i64))] [] (.seq (.seq .leaf (.cond .leaf .leaf)) (.seq (.block (.seq (.draw (.early 0 (.early 1 (.early 2 (.early 3 (.early 4 (.early 5 (.early 6 (.early 7 (.fork [(8, (.early 9 .done))])))))))))) (.cond (.seq .leaf .leaf) .leaf))) .leaf))))) (.seq .leaf .leaf))))
/-- (*weir/weirlaw6.Lists).Keep -/
def a49 : Ann := (.seq .leaf (.seq .leaf (.seq .leaf .leaf)))
/-- weir/weirlaw6.Spot -/
def a50 : Ann := (.seq .leaf (.seq .leaf (.seq (.seq .leaf (.cond .leaf .leaf)) (.seq .leaf .leaf))))
/-- (*weir/weirlaw6.Lists).Untouched -/
def a51 : Ann := (.seq .leaf (.seq (.seq .leaf (.block (.loop [(.t 3, (.int .i64))] [] (.seq (.seq .leaf (.cond .leaf .leaf)) (.seq (.block (.seq .leaf (.block (.loop [(.t 4, (.int .i64))] [] (.seq (.seq .leaf (.cond .leaf .leaf)) (.cut [] [] (.block (.seq (.draw (.early 0 (.early 1 (.early 2 (.early 3 (.early 4 (.early 5 (.early 6 (.early 7 (.early 8 (.early 9 (.early 10 (.early 11 (.early 12 (.early 13 (.early 14 (.early 15 (.early 16 (.early 17 (.early 18 (.early 19 (.early 20 (.early 21 (.early 22 (.early 23 (.early 24 (.early 25 (.early 26 (.early 27 (.early 28 (.early 29 (.early 30 (.early 31 (.early 32 (.early 33 (.early 34 (.early 35 (.early 36 (.early 37 (.early 38 (.early 39 (.early 40 (.early 41 (.early 42 (.early 43 (.early 44 (.early 45 (.early 46 (.early 47 (.early 48 (.early 49 .done))))))))))))))))))))))))))))))))))))))))))))))))))) (.cond (.seq .leaf .leaf) .leaf))) .leaf)))))) .leaf))))) (.seq .leaf .leaf)))
/-- (*weir/weirlaw6.Lists).Settle -/
def a52 : Ann := (.seq .leaf (.seq (.seq .leaf (.cond (.seq .leaf .leaf) .leaf)) (.seq (.seq .leaf (.block (.loop [(.t 3, (.int .i64))] [] (.seq (.seq .leaf (.cond .leaf .leaf)) (.seq (.block (.seq .leaf (.block (.loop [(.t 4, (.int .i64))] [] (.seq (.seq .leaf (.cond .leaf .leaf)) (.seq (.block .leaf) .leaf)))))) .leaf))))) (.seq .leaf (.seq (.seq .leaf (.block (.loop [(.t 5, (.slice 43)), (.t 6, (.int .i64))] [] (.seq (.seq .leaf (.cond .leaf .leaf)) (.seq (.block (.seq .leaf (.seq .leaf (.seq (.block (.loop [(.t 7, (.slice 60))] [] (.seq (.seq .leaf (.cond .leaf .leaf)) (.block .leaf)))) .leaf)))) .leaf))))) (.seq (.seq .leaf (.block (.loop [(.t 9, (.int .i64))] [] (.seq (.seq .leaf (.cond .leaf .leaf)) (.cut [] [] (.block (.seq .leaf (.cond (.seq .leaf .leaf) .leaf))) .leaf))))) (.seq .leaf .leaf)))))))
/-- weir/weirref9.PutUdp -/
def a54 : Ann := (.seq .leaf (.seq .leaf (.seq (.seq .leaf (.cond (.seq .leaf .leaf) .leaf)) (.seq .leaf (.seq (.seq .leaf (.cond (.seq .leaf .leaf) .leaf)) (.seq .leaf (.seq .leaf (.seq .leaf (.seq .leaf (.seq .leaf (.seq .leaf (.seq (.seq .leaf (.cond (.seq .leaf .leaf) .leaf)) (.seq .leaf (.cut [(.t 11, (.int .i64))] [0, 1, 2] (.seq .leaf (.cond .leaf .leaf)) (.seq .leaf (.seq .leaf (.seq .leaf .leaf)))))))))))))))))
/-- weir/weirref9.PutTcp -/
def a55 : Ann := (.seq .leaf (.seq .leaf (.seq (.seq .leaf (.cond (.seq .leaf .leaf) .leaf)) (.seq .leaf (.seq (.seq .leaf (.cond (.seq .leaf .leaf) .leaf)) (.seq .leaf (.seq .leaf (.seq .leaf (.seq .leaf (.seq .leaf (.seq .leaf (.seq .leaf (.seq .leaf (.seq .leaf (.seq .leaf (.seq .leaf (.seq .leaf (.seq .leaf (.seq .leaf (.seq .leaf (.seq .leaf (.seq .leaf .leaf))))))))))))))))))))))
/-- weir/weirref9.PutTcpOptions -/
def a56 : Ann := (.seq .leaf (.seq (.seq .leaf (.block (.loop [(.t 4, (.int .i64))] [] (.seq (.seq .leaf (.cond .leaf .leaf)) (.seq (.block (.seq (.draw (.early 0 (.early 1 (.early 2 (.early 3 (.early 4 (.early 5 (.early 6 (.early 7 (.early 8 (.early 9 (.early 10 (.early 11 (.fork [(12, (.early 13 .done))])))))))))))))) (.seq .leaf (.cond (.seq .leaf .leaf) .leaf)))) .leaf))))) (.seq .leaf (.seq (.seq .leaf (.cond (.seq .leaf .leaf) .leaf)) (.seq .leaf .leaf)))))
/-- weir/weirref9.Clamp -/
def a57 : Ann := (.seq .leaf (.seq .leaf (.cut [(.t 1, (.int .i64))] [0, 1, 2] (.seq .leaf (.cond .leaf .leaf)) (.seq (.seq .leaf (.block (.loop [(.t 6, (.int .i64))] [0, 1, 2] (.seq (.seq .leaf (.cond .leaf .leaf)) (.cut [] [0, 1, 2] (.block (.seq .leaf (.cut [(.t 42, .bool)] [0, 1, 2] .leaf (.cond (.seq .leaf .leaf) .leaf)))) .leaf))))) (.seq .leaf .leaf)))))
/-- weir/weirref9.Mss -/
def a58 : Ann := (.seq .leaf (.seq (.seq .leaf (.block (.loop [(.t 4, (.int .i64))] [0] (.seq (.seq .leaf (.cond .leaf .leaf)) (.seq (.block (.seq .leaf (.seq .leaf (.cond (.seq .leaf .leaf) .leaf)))) .leaf))))) (.seq .leaf .leaf)))
/-- weir/weirref9.CheckUdp -/
def a59 : Ann := (.seq .leaf (.seq (.block (.seq .leaf (.cond (.seq .leaf .leaf) (.seq .leaf (.cond (.seq .leaf .leaf) (.seq .leaf (.cond (.seq .leaf .leaf) .leaf))))))) (.seq .leaf .leaf)))
/-- weir/weirref9.CheckTcp -/
def a60 : Ann := (.seq .leaf (.cut [] [0] (.seq .leaf (.cond (.seq .leaf .leaf) .leaf)) (.seq .leaf (.seq (.seq .leaf (.cond (.seq .leaf .leaf) .leaf)) (.seq (.seq .leaf (.cond (.seq .leaf .leaf) .leaf)) (.seq .leaf .leaf))))))
/-- (*weir/weirlaw3.Book).Keep -/
def a61 : Ann := (.seq .leaf (.seq .leaf (.seq .leaf .leaf)))
/-- (*weir/weirlaw6.Rooms).Stand -/
def a62 : Ann := (.seq .leaf (.cut [] [] (.seq (.draw (.early 0 (.early 1 (.early 2 (.early 3 (.early 4 (.early 5 (.early 6 (.early 7 (.early 8 (.early 9 (.early 10 (.early 11 (.early 12 (.early 13 (.early 14 (.early 15 (.early 16 (.early 17 (.fork [(18, (.early 19 (.early 20 .done)))])))))))))))))))))))) (.cond (.seq .leaf .leaf) .leaf)) (.seq (.seq .leaf (.block (.loop [(.t 5, (.int .i64))] [] (.seq (.seq .leaf (.cond .leaf .leaf)) (.seq (.block (.seq (.draw (.early 0 (.early 1 (.early 2 (.early 3 (.early 4 (.early 5 (.early 6 (.early 7 (.early 8 (.early 9 (.early 10 (.early 11 (.fork [(12, (.early 13 .done))])))))))))))))) (.seq .leaf (.cond (.seq .leaf .leaf) .leaf)))) .leaf))))) (.seq (.seq .leaf (.block (.loop [(.t 7, (.int .i64))] [] (.seq (.seq .leaf (.cond .leaf .leaf)) (.cut [] [] (.block (.seq .leaf (.cond (.seq .leaf .leaf) .leaf))) .leaf))))) (.seq .leaf .leaf)))))
/-- (*weir/weirlaw3.Book).Untouched -/
def a63 : Ann := (.seq .leaf (.seq (.seq .leaf (.block (.loop [(.t 3, (.int .i64))] [] (.seq (.seq .leaf (.cond .leaf .leaf)) (.seq (.block (.seq (.draw (.early 0 (.early 1 (.early 2 (.early 3 (.early 4 (.early 5 (.early 6 (.early 7 (.early 8 (.early 9 (.early 10 (.early 11 (.early 12 (.early 13 (.fork [(14, (.early 15 .done))])))))))))))))))) (.cond (.seq .leaf .leaf) .leaf))) .leaf))))) (.seq .leaf .leaf)))
/-- weir/weirlaw6.Turn -/
def a64 : Ann := (.seq .leaf (.cut [] [0] (.seq .leaf (.cond (.draw (.early 0 (.early 1 (.early 2 (.early 3 (.early 4 (.early 6 (.early 7 (.early 8 (.fork [(5, (.early 9 (.fork [(10, .done)])))])))))))))) .leaf)) (.seq (.seq .leaf (.cond .leaf .leaf)) (.seq .leaf (.seq .leaf (.cond (.draw (.early 0 (.early 1 (.early 2 (.early 3 (.early 4 (.early 6 (.early 7 (.early 8 (.fork [(5, (.early 9 (.fork [(10, .done)])))])))))))))) .leaf))))))
/-- (*weir/weirlaw3.Book).Settle -/
def a65 : Ann := (.seq .leaf (.seq (.seq .leaf (.cond (.seq .leaf .leaf) .leaf)) (.seq (.seq .leaf (.block (.loop [(.t 3, (.int .i64))] [] (.seq (.seq .leaf (.cond .leaf .leaf)) (.seq (.block (.seq .leaf (.block (.loop [(.t 4, (.int .i64))] [] (.seq (.seq .leaf (.cond .leaf .leaf)) (.seq (.block .leaf) .leaf)))))) .leaf))))) (.seq .leaf (.seq (.seq .leaf (.block (.loop [(.t 5, (.slice 28)), (.t 6, (.int .i64))] [] (.seq (.seq .leaf (.cond .leaf .leaf)) (.seq (.block (.seq .leaf (.seq .leaf (.seq (.block (.loop [(.t 7, (.slice 5))] [] (.seq (.seq .leaf (.cond .leaf .leaf)) (.block .leaf)))) .leaf)))) .leaf))))) (.seq (.seq .leaf (.block (.loop [(.t 9, (.int .i64))] [] (.seq (.seq .leaf (.cond .leaf .leaf)) (.cut [] [] (.block (.seq .leaf (.cond (.seq .leaf .leaf) .leaf))) .leaf))))) (.seq .leaf .leaf)))))))
/-- weir/weirlaw9.ends -/
def a69 : Ann := (.seq .leaf (.seq .leaf .leaf))
/-- weir/l4.fit -/
def a70 : Ann := (.seq .leaf (.seq .leaf (.seq .leaf .leaf)))
/-- weir/view.Pack -/
def a71 : Ann := (.seq .leaf (.seq .leaf (.seq (.seq .leaf (.cond (.seq .leaf .leaf) .leaf)) (.seq (.seq .leaf (.cond (.seq .leaf .leaf) .leaf)) (.seq .leaf (.seq .leaf (.seq (.seq .leaf (.block (.loop [(.t 9, (.int .i64)), (.t 31, (.int .i64))] [] (.seq .leaf (.seq (.cond .leaf .leaf) (.seq (.block (.seq .leaf (.seq .leaf (.cut [] [] (.seq .leaf (.cond (.seq .leaf .leaf) .leaf)) (.seq .leaf (.block (.loop [(.t 9, (.int .i64)), (.t 13, (.int .i64))] [] (.seq (.seq .leaf (.cond .leaf .leaf)) (.seq (.block (.seq .leaf .leaf)) .leaf))))))))) .leaf)))))) (.seq .leaf .leaf))))))))
/-- weir/sum.Check -/
def a72 : Ann := (.seq .leaf (.seq .leaf .leaf))
/-- weir/view.Fields -/
def a73 : Ann := (.seq .leaf (.seq .leaf (.seq (.seq .leaf (.cond (.seq (.drawK [] (.early 0 (.fork [(1, (.fork [(2, (.fork [(3, .done)]))]))]))) .leaf) .leaf)) (.seq .leaf (.seq .leaf (.seq .leaf (.seq (.seq .leaf (.block (.loop [(.t 11, (.int .i64)), (.t 30, (.int .i64))] [] (.seq .leaf (.seq (.cond .leaf .leaf) (.seq (.block (.seq .leaf (.seq .leaf (.seq (.seq .leaf (.block (.loop [(.t 11, (.int .i64)), (.t 14, (.int .i64)), (.t 35, (.int .i64))] [] (.seq .leaf (.seq (.cond .leaf .leaf) (.seq (.block (.seq .leaf .leaf)) .leaf)))))) .leaf)))) .leaf)))))) (.seq .leaf .leaf))))))))
/-- weir/l4.good -/
def a74 : Ann := (.seq .leaf (.seq .leaf (.seq .leaf .leaf)))
/-- weir/sum.version -/
def a75 : Ann := (.seq .leaf (.seq (.block (.seq .leaf (.cond (.seq .leaf .leaf) (.seq .leaf (.cond (.seq .leaf .leaf) .leaf))))) (.seq .leaf (.seq (.seq .leaf (.cond (.seq .leaf .leaf) .leaf)) (.seq .leaf .leaf)))))
/-- weir/sum.Sum -/
def a76 : Ann := (.seq .leaf (.seq .leaf (.seq (.seq .leaf (.block (.loop [(.t 3, (.int .i64)), (.t 4, .bool), (.t 11, (.int .i64))] [] (.seq .leaf (.seq (.cond .leaf .leaf) (.seq (.block (.seq .leaf (.seq (.seq .leaf (.block (.loop [(.t 3, (.int .i64)), (.t 4, .bool), (.t 17, (.int .i64))] [] (.seq .leaf (.seq (.cond .leaf .leaf) (.seq (.block (.seq .leaf (.cut [(.t 3, (.int .i64))] [] (.seq .leaf (.cond .leaf .leaf)) .leaf))) .leaf)))))) .leaf))) .leaf)))))) (.seq .leaf .leaf))))
/-- weir/l4.out -/
def a77 : Ann := (.seq .leaf (.seq .leaf .leaf))
/-- weir/l4.right -/
def a78 : Ann := (.seq .leaf (.seq .leaf .leaf))
/-- weir/l4.told -/
def a79 : Ann := (.seq .leaf (.cut [] [0] (.seq .leaf (.cond (.seq .leaf .leaf) .leaf)) (.seq (.draw (.early 0 (.early 1 (.early 2 (.early 3 (.early 4 (.early 5 (.early 6 (.early 7 (.early 8 (.early 9 (.early 10 (.early 11 (.early 12 (.early 13 .done))))))))))))))) .leaf)))
/-- weir/weirref6.CloneOpts -/
def a80 : Ann := (.seq .leaf (.seq .leaf (.seq (.seq .leaf (.block (.loop [(.t 3, (.slice 60)), (.t 4, (.int .i64))] [] (.seq (.seq .leaf (.cond .leaf .leaf)) (.seq (.block (.draw (.early 0 (.early 1 (.early 2 (.early 3 (.early 4 (.early 5 (.early 6 (.early 7 (.early 8 (.early 9 (.early 10 (.fork [(11, (.early 12 (.fork [(13, (.fork [(14, (.early 15 .done))]))])))])))))))))))))) .leaf))))) (.seq .leaf .leaf))))
/-- weir/weirlaw3.mark -/
def a82 : Ann := (.seq .leaf (.seq .leaf .leaf))
/-- weir/weirref9.fit -/
def a83 : Ann := (.seq .leaf (.seq .leaf (.seq .leaf .leaf)))
/-- weir/weirref9.number -/
def a84 : Ann := (.seq .leaf (.seq .leaf (.seq (.seq .leaf (.block (.loop [(.t 7, (.int .i64)), (.t 8, (.int .i64))] [] (.seq (.seq .leaf (.cond .leaf .leaf)) (.seq (.block .leaf) .leaf))))) (.seq .leaf .leaf))))
/-- weir/weirref9.length -/
def a86 : Ann := (.seq .leaf (.seq (.seq .leaf (.block (.seq .leaf (.cond (.seq .leaf .leaf) (.seq .leaf (.cond (.seq .leaf .leaf) (.seq .leaf (.cond (.seq .leaf .leaf) (.seq .leaf (.cond (.seq .leaf .leaf) (.seq .leaf (.cond (.seq .leaf .leaf) .leaf)))))))))))) (.seq .leaf .leaf)))
/-- weir/weirlaw3.alike -/
def a87 : Ann := (.seq .leaf (.seq .leaf .leaf))
/-- weir/weirlaw6.only -/
def a88 : Ann := (.seq .leaf (.seq (.seq .leaf (.block (.loop [(.t 5, (.int .i64))] [] (.seq (.seq .leaf (.cond .leaf .leaf)) (.cut [] [] (.block (.seq .leaf (.cond (.seq .leaf .leaf) .leaf))) .leaf))))) (.seq .leaf .leaf)))
/-- weir/weirref9.add -/
def a89 : Ann := (.seq .leaf (.seq .leaf (.seq (.seq .leaf (.block (.loop [(.t 7, (.int .i64)), (.t 8, (.int .i64))] [] (.seq (.seq .leaf (.cond .leaf .leaf)) (.seq (.block .leaf) .leaf))))) (.seq (.seq .leaf (.block (.loop [(.t 0, (.slice 5)), (.t 7, (.int .i64)), (.t 9, (.int .i64))] [] (.seq (.seq .leaf (.cond .leaf .leaf)) (.seq (.block (.seq .leaf .leaf)) .leaf))))) (.seq .leaf .leaf)))))
/-- weir/weirref9.summed -/
def a90 : Ann := (.seq .leaf (.seq .leaf (.seq .leaf .leaf)))
/-- weir/weirref6.PutOptions -/
def a91 : Ann := (.seq .leaf (.seq .leaf (.seq (.seq .leaf (.block (.loop [(.t 4, (.slice 5)), (.t 5, (.int .i64))] [] (.seq (.seq .leaf (.cond .leaf .leaf)) (.cut [(.t 4, (.slice 5))] [] (.block (.seq .leaf (.cut [] [] (.seq .leaf (.cond (.seq .leaf .leaf) .leaf)) (.seq .leaf .leaf)))) .leaf))))) (.seq (.block (.loop [(.t 4, (.slice 5))] [] (.seq (.seq .leaf (.cond .leaf .leaf)) (.block .leaf)))) (.seq (.seq .leaf (.cond (.seq .leaf .leaf) .leaf)) (.seq .leaf .leaf))))))
/-- weir/weirref9.tells -/
def a92 : Ann := (.seq .leaf (.seq .leaf .leaf))
/-- weir/weirref9.out -/
def a93 : Ann := (.seq .leaf (.seq .leaf .leaf))
/-- weir/weirlaw3.full -/
def a94 : Ann := (.seq .leaf (.seq (.seq .leaf (.block (.loop [(.t 5, (.int .i64))] [] (.seq (.seq .leaf (.cond .leaf .leaf)) (.seq (.block (.seq .leaf (.cond (.seq .leaf .leaf) .leaf))) .leaf))))) (.seq .leaf .leaf)))
/-- weir/view.bits -/
def a97 : Ann := (.seq .leaf (.seq (.seq .leaf (.cond (.seq .leaf .leaf) .leaf)) (.seq .leaf (.seq (.seq .leaf (.block (.loop [(.t 4, (.int .i64)), (.t 12, (.int .i64))] [] (.seq .leaf (.seq (.cond .leaf .leaf) (.seq (.block (.seq .leaf (.cut [] [] (.seq .leaf (.cond (.seq .leaf .leaf) .leaf)) .leaf))) .leaf)))))) (.seq (.seq .leaf (.cond (.seq .leaf .leaf) .leaf)) (.seq .leaf .leaf))))))
/-- weir/view.part -/
def a99 : Ann := (.seq .leaf (.cut [] [] (.seq .leaf (.cond .leaf .leaf)) (.seq .leaf .leaf)))
/-- weir/view.look -/
def a100 : Ann := (.seq .leaf (.cut [] [] (.seq .leaf (.cond .leaf .leaf)) (.seq .leaf .leaf)))
/-- weir/sum.fold -/
def a101 : Ann := (.seq .leaf (.seq (.block (.loop [(.t 0, (.int .i64))] [] (.seq (.seq .leaf (.cond .leaf .leaf)) (.block .leaf)))) (.seq .leaf .leaf)))
/-- weir/weirref2.Pseudo -/
def a102 : Ann := (.seq .leaf (.seq .leaf (.cut [] [0, 1] (.seq .leaf (.cond (.seq .leaf .leaf) .leaf)) (.cut [] [0, 1] (.seq .leaf (.cond (.seq .leaf .leaf) .leaf)) (.seq .leaf (.seq (.seq .leaf (.cond (.seq .leaf (.seq .leaf .leaf)) .leaf)) (.seq (.seq .leaf (.block (.loop [(.t 11, (.slice 5)), (.t 12, (.int .i64))] [0, 1] (.seq (.seq .leaf (.cond .leaf .leaf)) (.seq (.block .leaf) .leaf))))) (.seq (.seq .leaf (.block (.loop [(.t 11, (.slice 5)), (.t 13, (.int .i64))] [0, 1] (.seq (.seq .leaf (.cond .leaf .leaf)) (.seq (.block .leaf) .leaf))))) (.seq .leaf .leaf)))))))))
/-- weir/weirref2.Check -/
def a104 : Ann := (.seq .leaf (.seq .leaf .leaf))
/-- weir/weirref2.version -/
def a105 : Ann := (.seq .leaf (.seq (.seq .leaf (.cond (.seq .leaf .leaf) .leaf)) (.seq (.seq .leaf (.block (.loop [(.t 3, (.int .i64))] [0] (.seq (.seq .leaf (.cond .leaf .leaf)) (.seq (.block (.seq .leaf (.cond (.seq .leaf .leaf) .leaf))) .leaf))))) (.seq (.seq .leaf (.cond (.seq .leaf .leaf) .leaf)) (.seq .leaf .leaf)))))
/-- weir/weirref2.Sum -/
def a106 : Ann := (.seq .leaf (.seq .leaf (.seq .leaf (.seq (.seq .leaf (.block (.loop [(.t 3, (.int .i64)), (.t 4, (.int .i64)), (.t 5, (.int .i64))] [] (.seq (.seq .leaf (.cond .leaf .leaf)) (.seq (.block (.seq .leaf (.block (.loop [(.t 3, (.int .i64)), (.t 4, (.int .i64)), (.t 6, (.int .i64))] [] (.seq (.seq .leaf (.cond .leaf .leaf)) (.cut [(.t 3, (.int .i64)), (.t 4, (.int .i64))] [] (.block (.seq .leaf (.cut [(.t 7, (.int .i64))] [] (.seq .leaf (.cond .leaf .leaf)) (.seq .leaf .leaf)))) .leaf)))))) .leaf))))) (.seq .leaf .leaf)))))
/-- weir/weirref2.folded -/
def a107 : Ann := (.seq .leaf (.seq (.seq .leaf (.cond (.seq .leaf .leaf) .leaf)) (.seq .leaf .leaf)))
end Go.Vc.S9
end

section
namespace Go.Vc
open Go.RowKit (Below)
set_option linter.unusedVariables false
set_option linter.unusedSimpArgs false
set_option autoImplicit false

/-! ### frames -/
theorem Upd.below {m n : List Nat} {w w1 : World} (h : Upd m n w w1) (hm : ∀ b ∈ m, w.heap.size ≤ b) : Below w.heap.size w w1 :=
  ⟨h.os, h.tape, h.output, h.size, fun k hk => h.keep k hk (fun e => by have := hm k e; omega)⟩
/-- nothing old is written: w is what it was, but for blocks from w0's size on -/
theorem Upd.step {m n m' n' : List Nat} {w0 w w1 : World} (h : Upd m n w0 w) (k : Upd m' n' w w1) (hm : ∀ b ∈ m', w0.heap.size ≤ b ∨ b ∈ m) : Upd m [] w0 w1 where
  os := k.os.trans h.os
  tape := k.tape.trans h.tape
  output := k.output.trans h.output
  size := Nat.le_trans h.size k.size
  keep b hb hn := by
    have h1 := h.size
    rw [k.keep b (by omega) (fun e => by rcases hm b e with h | h; omega; exact hn h), h.keep b hb hn]
  news := by simp
theorem Upd.step0 {n m' n' : List Nat} {w0 w w1 : World} (h : Upd [] n w0 w) (k : Upd m' n' w w1) (hm : ∀ b ∈ m', w0.heap.size ≤ b) : Upd [] [] w0 w1 :=
  h.step k (fun b hb => .inl (hm b hb))
theorem Upd.then {n n' : List Nat} {w0 w w1 : World} (h : Upd [] n w0 w) (k : Upd [] n' w w1) : Upd [] [] w0 w1 := h.step k (by simp)
theorem Upd.forget {m n : List Nat} {w w1 : World} (h : Upd m n w w1) : Upd m [] w w1 := h.mono (fun _ h => h) (by simp)
theorem Upd.wide {m m' n : List Nat} {w w1 : World} (h : Upd m n w w1) (hm : ∀ x ∈ m, x ∈ m') : Upd m' [] w w1 := h.mono hm (by simp)
theorem Upd.new {m n : List Nat} {w w1 : World} (h : Upd m n w w1) {b : Nat} (hb : b ∈ n) : w.heap.size ≤ b ∧ b < w1.heap.size := h.news b hb

theorem cell_of_block {w : World} {b e : Nat} {c : Array Value} {f : Nat × Nat} (h : w.heap[b]? = some (.cells c e f)) (i : Nat) : w.cell? ⟨b, i, none⟩ = c[i]? := by
  simp [World.cell?, h]
theorem frozen_of_block {w : World} {b e : Nat} {c : Array Value} (h : w.heap[b]? = some (.cells c e (0, 0))) (i : Nat) : w.frozen? ⟨b, i, none⟩ = false := by
  simp [World.frozen?, h]
@[simp] theorem add_block (a : Addr) (n : Nat) : (a.add n).block = a.block := by unfold Addr.add; split <;> rfl
@[simp] theorem add_zero (a : Addr) : a.add 0 = a := by simp [Addr.add]
theorem add_none {b o n : Nat} : (⟨b, o, none⟩ : Addr).add n = ⟨b, o + n, none⟩ := by unfold Addr.add; split <;> simp_all
theorem Upd.cell' {m n : List Nat} {w w1 : World} (h : Upd m n w w1) {a : Addr} (hs : (w.cell? a).isSome = true) (hm : a.block ∉ m) : w1.cell? a = w.cell? a := by
  obtain ⟨v, hv⟩ := Option.isSome_iff_exists.1 hs
  rw [hv]; exact h.cell hv hm
theorem Upd.frozen {m n : List Nat} {w w1 : World} (h : Upd m n w w1) {a : Addr} (hs : a.block < w.heap.size) (hm : a.block ∉ m) : w1.frozen? a = w.frozen? a := by
  simp only [World.frozen?, h.keep _ hs hm]

/-- cells written one behind the other -/
theorem Upd.setCells (w : World) (b o : Nat) (vs : List Value) : Upd [b] [] w (w.setCells b o vs) where
  os := (World.keptBut_setCells b (may := fun _ => True) vs o w (fun _ _ => trivial)).1
  tape := by
    have : ∀ (vs : List Value) (o : Nat) (w : World), (w.setCells b o vs).tape = w.tape := by
      intro vs
      induction vs with
      | nil => intro o w; rfl
      | cons v r ih => intro o w; rw [World.setCells, ih]; rfl
    exact this vs o w
  output := (World.keptBut_setCells b (may := fun _ => True) vs o w (fun _ _ => trivial)).2.1
  size := by
    have : ∀ (vs : List Value) (o : Nat) (w : World), (w.setCells b o vs).heap.size = w.heap.size := by
      intro vs
      induction vs with
      | nil => intro o w; rfl
      | cons v r ih => intro o w; rw [World.setCells, ih]; simp [World.setCell]
    rw [this]; exact Nat.le_refl _
  keep k hk hn := by
    have : ∀ (vs : List Value) (o : Nat) (w : World), (w.setCells b o vs).heap[k]? = w.heap[k]? := by
      intro vs
      induction vs with
      | nil => intro o w; rfl
      | cons v r ih =>
        intro o w
        rw [World.setCells, ih]
        exact Below.heap_setCell _ _ _ _ (by simp at hn; exact hn)
    exact this vs o w
  news := by simp

/-! ### what a slice holds -/
/-- how elements lie in cells -/
structure Cod (α : Type) where
  sz : Nat
  enc : α → List Value
  len : ∀ x, (enc x).length = sz
  one : ∀ x, ∀ v ∈ enc x, v.oneCell' = true

def Cod.cells {α : Type} (c : Cod α) (l : List α) : List Value := l.flatMap c.enc
@[simp] theorem Cod.cells_nil {α : Type} (c : Cod α) : c.cells [] = [] := rfl
theorem Cod.cells_cons {α : Type} (c : Cod α) (x : α) (l : List α) : c.cells (x :: l) = c.enc x ++ c.cells l := by simp [Cod.cells]
theorem Cod.cells_append {α : Type} (c : Cod α) (l m : List α) : c.cells (l ++ m) = c.cells l ++ c.cells m := by simp [Cod.cells]
theorem Cod.cells_length {α : Type} (c : Cod α) : ∀ (l : List α), (c.cells l).length = l.length * c.sz
  | [] => by simp
  | x :: l => by rw [Cod.cells_cons, List.length_append, c.len, Cod.cells_length c l, List.length_cons, Nat.add_mul]; omega
theorem Cod.cells_one {α : Type} (c : Cod α) (l : List α) : ∀ v ∈ c.cells l, v.oneCell' = true := fun v hv => by
  obtain ⟨x, _, hx⟩ := List.mem_flatMap.1 hv
  exact c.one x v hx
theorem mul_add_lt {i j n sz : Nat} (hi : i < n) (hj : j < sz) : i * sz + j < n * sz := by
  have h1 : (i + 1) * sz ≤ n * sz := Nat.mul_le_mul_right _ hi
  rw [Nat.add_mul] at h1
  omega
theorem Cod.cells_get {α : Type} (c : Cod α) : ∀ (l : List α) (i : Nat) (h : i < l.length) (j : Nat) (hj : j < (c.enc l[i]).length), (c.cells l)[i * c.sz + j]? = some (c.enc l[i])[j]
  | x :: l, 0, _, j, hj => by
    simp at hj
    rw [Cod.cells_cons]
    simp [List.getElem?_append_left, hj]
  | x :: l, i + 1, h, j, hj => by
    rw [Cod.cells_cons, List.getElem?_append_right (by rw [c.len, Nat.add_mul]; omega), c.len]
    have := Cod.cells_get c l i (by simpa using h) j (by simpa using hj)
    rw [show (i + 1) * c.sz + j - c.sz = i * c.sz + j by rw [Nat.add_mul]; omega]
    simpa using this
theorem Cod.cells_take {α : Type} (c : Cod α) (l : List α) (n : Nat) : (c.cells l).take (n * c.sz) = c.cells (l.take n) := by
  induction l generalizing n with
  | nil => simp
  | cons x l ih =>
    cases n with
    | zero => simp
    | succ n =>
      rw [Cod.cells_cons, List.take_succ_cons, Cod.cells_cons, ← ih n]
      rw [List.take_append, c.len, List.take_of_length_le (by rw [c.len, Nat.add_mul]; omega)]
      rw [show (n + 1) * c.sz - c.sz = n * c.sz by rw [Nat.add_mul]; omega]
theorem Cod.cells_drop {α : Type} (c : Cod α) (l : List α) (n : Nat) : (c.cells l).drop (n * c.sz) = c.cells (l.drop n) := by
  induction l generalizing n with
  | nil => simp
  | cons x l ih =>
    cases n with
    | zero => simp
    | succ n =>
      rw [Cod.cells_cons, List.drop_succ_cons, ← ih n, List.drop_append, c.len, List.drop_of_length_le (by rw [c.len, Nat.add_mul]; omega)]
      rw [show (n + 1) * c.sz - c.sz = n * c.sz by rw [Nat.add_mul]; omega]
      simp

/-- the cells from p on -/
def Cells (w : World) (p : Option Addr) (vs : List Value) : Prop :=
  match p with
  | none => vs = []
  | some a => ∀ i (h : i < vs.length), w.cell? (a.add i) = some vs[i]

def Sl.blk (s : Sl) : List Nat := match s.ptr with | none => [] | some a => [a.block]
theorem blk_some {s : Sl} {a : Addr} (h : s.ptr = some a) : s.blk = [a.block] := by simp [Sl.blk, h]
structure Sees {α : Type} (c : Cod α) (w : World) (s : Sl) (l : List α) : Prop where
  len : s.len = l.length
  row : Cells w s.ptr (c.cells l)

theorem Cells.upd {m n : List Nat} {w w1 : World} {p : Option Addr} {vs : List Value} (h : Cells w p vs) (u : Upd m n w w1) (hm : ∀ a, p = some a → vs ≠ [] → a.block ∉ m) : Cells w1 p vs := by
  cases p with
  | none => exact h
  | some a =>
    intro i hi
    exact u.cell (h i hi) (by simpa using hm a rfl (by intro e; rw [e] at hi; cases hi))
theorem Cells.app {w : World} {a : Addr} {x y : List Value} (h : Cells w (some a) (x ++ y)) : Cells w (some a) x ∧ Cells w (some (a.add x.length)) y := by
  refine ⟨fun i hi => ?_, fun i hi => ?_⟩
  · have := h i (by simp; omega)
    rwa [List.getElem_append_left hi] at this
  · have := h (x.length + i) (by simp; omega)
    rw [List.getElem_append_right (by omega)] at this
    rw [add_add]
    simpa using this
theorem Cells.mk {w : World} {a : Addr} {x y : List Value} (h : Cells w (some a) x) (k : Cells w (some (a.add x.length)) y) : Cells w (some a) (x ++ y) := by
  intro i hi
  by_cases hx : i < x.length
  · rw [List.getElem_append_left hx]; exact h i hx
  · rw [List.getElem_append_right (by omega)]
    have := k (i - x.length) (by simp at hi; omega)
    rw [add_add, show x.length + (i - x.length) = i by omega] at this
    exact this

section
variable {α : Type} {c : Cod α} {w w1 : World} {s : Sl} {l : List α}

theorem Sees.upd {m n : List Nat} (h : Sees c w s l) (u : Upd m n w w1) (hm : ∀ b ∈ s.blk, b ∉ m) : Sees c w1 s l :=
  ⟨h.len, h.row.upd u (fun a ha _ => hm _ (by simp [blk_some ha]))⟩
theorem Sees.old {n : List Nat} (h : Sees c w s l) (u : Upd [] n w w1) : Sees c w1 s l := h.upd u (by simp)

theorem Sees.nil (c : Cod α) (w : World) (p : Option Addr) (cap : Nat) : Sees c w ⟨p, 0, cap⟩ [] := ⟨rfl, by cases p <;> simp [Cells]⟩

/-- an element's cells -/
theorem Sees.elem (h : Sees c w s l) {i : Nat} (hi : i < l.length) : Cells w (some (s.at c.sz i)) (c.enc l[i]) := by
  intro j hj
  have hrow := h.row
  have hg := c.cells_get l i hi j hj
  cases hp : s.ptr with
  | none =>
    rw [hp] at hrow
    simp only [Cells] at hrow
    rw [hrow] at hg
    simp at hg
  | some a =>
    rw [hp] at hrow
    obtain ⟨hlt, he⟩ := List.getElem?_eq_some_iff.1 hg
    have := hrow _ hlt
    rw [he] at this
    simp only [Sl.at, hp, Option.getD_some, add_add]
    exact this
theorem Sees.ptr_some (h : Sees c w s l) (hz : 0 < c.sz) (hl : 0 < l.length) : ∃ a, s.ptr = some a := by
  cases hp : s.ptr with
  | some a => exact ⟨a, rfl⟩
  | none =>
    have hrow := h.row
    rw [hp] at hrow
    simp only [Cells] at hrow
    have := c.cells_length l
    rw [hrow] at this
    have h2 : 0 < l.length * c.sz := Nat.mul_pos hl hz
    simp at this
    omega
theorem Sees.isSome (h : Sees c w s l) (hz : 0 < c.sz) (hl : 0 < l.length) : s.ptr.isSome = true := by
  obtain ⟨a, ha⟩ := h.ptr_some hz hl
  simp [ha]

/-- a slice of the slice -/
theorem Sees.sub (h : Sees c w s l) {lo hi mx : Nat} (h1 : lo ≤ hi) (h2 : hi ≤ l.length) (h3 : hi ≤ mx) : Sees c w (s.sub c.sz lo hi mx) ((l.take hi).drop lo) where
  len := by simp [Sl.sub]; omega
  row := by
    have hrow := h.row
    rw [← c.cells_drop, ← c.cells_take]
    cases hp : s.ptr with
    | none =>
      rw [hp] at hrow
      simp only [Cells] at hrow
      simp only [hrow, Sl.sub, hp]
      simp [Cells]
    | some a =>
      rw [hp] at hrow
      by_cases e : mx = lo
      · have : hi = lo := by omega
        subst this
        have e2 : ((c.cells l).take (hi * c.sz)).drop (hi * c.sz) = [] := by simp
        rw [e2]
        simp only [Sl.sub]
        split <;> simp [Cells, hp]
      · simp only [Sl.sub, if_neg e, hp, Option.map_some]
        intro i hi'
        simp at hi'
        rw [add_add]
        simp only [List.getElem_drop, List.getElem_take]
        exact hrow _ (by omega)
theorem Sees.take (h : Sees c w s l) {n : Nat} (hn : n ≤ l.length) (cap : Nat) : Sees c w ⟨s.ptr, n, cap⟩ (l.take n) where
  len := by simp; omega
  row := by
    have hrow := h.row
    rw [← c.cells_take]
    cases hp : s.ptr with
    | none => rw [hp] at hrow; simp only [Cells] at hrow; simp [hrow, Cells]
    | some a =>
      rw [hp] at hrow
      intro i hi
      simp at hi
      simp only [List.getElem_take]
      exact hrow _ (by omega)

theorem Sees.rowAt (h : Sees c w s l) : RowAt w s.ptr (s.len * c.sz) (c.cells l) := by
  have hrow := h.row
  cases hp : s.ptr with
  | none => rw [hp] at hrow; exact hrow
  | some a =>
    rw [hp] at hrow
    exact ⟨by rw [c.cells_length, h.len], hrow, c.cells_one l⟩

/-- a slice's array may be written, and it is from block N on -/
structure Own (N : Nat) (sz : Nat) (w : World) (s : Sl) : Prop where
  le : s.len ≤ s.cap
  nil : s.ptr = none → s.cap = 0
  blk : ∀ b ∈ s.blk, N ≤ b ∧ b < w.heap.size
  cell : ∀ a, s.ptr = some a → a.spot = none ∧ ∀ i, i < s.cap * sz → (w.cell? (a.add i)).isSome = true ∧ w.frozen? (a.add i) = false

theorem Own.none (N sz : Nat) (w : World) : Own N sz w ⟨none, 0, 0⟩ := ⟨Nat.le_refl _, fun _ => rfl, by simp [Sl.blk], by simp⟩
theorem Own.upd {N sz : Nat} {m n : List Nat} (h : Own N sz w s) (u : Upd m n w w1) (hm : ∀ b ∈ s.blk, b ∉ m) : Own N sz w1 s where
  le := h.le
  nil := h.nil
  blk b hb := ⟨(h.blk b hb).1, Nat.lt_of_lt_of_le (h.blk b hb).2 u.size⟩
  cell a ha := ⟨(h.cell a ha).1, fun i hi => by
    have hb := hm a.block (by simp [blk_some ha])
    have h1 := (h.cell a ha).2 i hi
    have h2 := (h.blk a.block (by simp [blk_some ha])).2
    rw [u.cell' h1.1 (by simpa using hb), u.frozen (by simpa using h2) (by simpa using hb)]
    exact h1⟩
theorem Own.old {N sz : Nat} {n : List Nat} (h : Own N sz w s) (u : Upd [] n w w1) : Own N sz w1 s := h.upd u (by simp)
theorem Own.mono {N N' sz : Nat} (h : Own N sz w s) (hN : N' ≤ N) : Own N' sz w s := ⟨h.le, h.nil, fun b hb => ⟨Nat.le_trans hN (h.blk b hb).1, (h.blk b hb).2⟩, h.cell⟩

/-- cells of a row written anew -/
theorem isSome_setCells' (b : Nat) (vs : List Value) (o : Nat) (w : World) (a : Addr) (h : (w.cell? a).isSome = true) : ((w.setCells b o vs).cell? a).isSome = true := by
  have : ∀ (vs : List Value) (o : Nat) (w : World), (w.cell? a).isSome = true → ((w.setCells b o vs).cell? a).isSome = true := by
    intro vs
    induction vs with
    | nil => intro o w h; exact h
    | cons v r ih =>
      intro o w h
      rw [World.setCells]
      refine ih _ _ ?_
      by_cases e : (⟨b, o, Option.none⟩ : Addr) = a
      · obtain ⟨u, hu⟩ := Option.isSome_iff_exists.1 h
        rw [← e] at hu ⊢
        rw [World.cell?_setCell_same _ _ _ hu]; rfl
      · rw [World.cell?_setCell_other _ _ _ _ e]; exact h
  exact this vs o w h

end
end Go.Vc
end

section
namespace Go.Vc
set_option linter.unusedVariables false
set_option linter.unusedSimpArgs false
set_option autoImplicit false

section
variable {α : Type} {c : Cod α} {w w1 : World} {s : Sl} {l : List α}

theorem add_eq {a : Addr} (hs : a.spot = none) (i : Nat) : a.add i = ⟨a.block, a.off + i, none⟩ := by cases a; simp at hs; subst hs; exact add_none

theorem cells_write {a : Addr} {vs : List Value} (hs : a.spot = none) (o : Nat) (hex : ∀ i, i < vs.length → (w.cell? (a.add (o + i))).isSome = true) :
    Cells (w.setCells a.block (a.off + o) vs) (some (a.add o)) vs := by
  intro i hi
  rw [add_add, add_eq hs]
  have := World.cell?_setCells_in a.block vs (a.off + o) w (fun j hj => by
    have := hex j hj
    rw [add_eq hs] at this
    rwa [show a.off + o + j = a.off + (o + j) by omega]) i hi
  rwa [show a.off + o + i = a.off + (o + i) by omega] at this
theorem cells_apart {a : Addr} {x vs : List Value} (hs : a.spot = none) (o p : Nat) (h : Cells w (some (a.add p)) x) (hp : p + x.length ≤ o ∨ o + vs.length ≤ p) :
    Cells (w.setCells a.block (a.off + o) vs) (some (a.add p)) x := by
  intro i hi
  have := h i hi
  rw [add_add, add_eq hs] at this ⊢
  rw [World.cell?_setCells_out _ _ _ _ _ (fun _ _ => by simp; omega)]
  exact this

theorem off_add {a : Addr} (hs : a.spot = none) (n : Nat) : (a.add n).off = a.off + n := by rw [add_eq hs]

theorem frozen_setCells' (b o : Nat) (vs : List Value) (a : Addr) : (w.setCells b o vs).frozen? a = w.frozen? a := World.frozen?_setCells b vs o w a

theorem Own.setCells {N sz : Nat} (h : Own N sz w s) (b o : Nat) (vs : List Value) : Own N sz (w.setCells b o vs) s where
  le := h.le
  nil := h.nil
  blk b' hb := ⟨(h.blk b' hb).1, by rw [setCells_size]; exact (h.blk b' hb).2⟩
  cell a ha := ⟨(h.cell a ha).1, fun i hi => ⟨isSome_setCells' _ _ _ _ _ ((h.cell a ha).2 i hi).1, by rw [frozen_setCells']; exact ((h.cell a ha).2 i hi).2⟩⟩

theorem appendN_own {N e by_ n : Nat} {new : List α} {bs : List Nat} {F : Sl → World → Prop} (h : Sees c w s l) (o : Own N c.sz w s) (hN : N ≤ w.heap.size) (hn : n = new.length)
    (hbs : ∀ b ∈ s.blk, b ∉ bs) (hpos : 0 < by_) (hb : (l.length + new.length) * by_ ≤ 140737488355328)
    (k : ∀ r w1, Sees c w1 r (l ++ new) → Own N c.sz w1 r → Upd s.blk [] w w1 → (∀ b ∈ r.blk, b ∈ s.blk ∨ w.heap.size ≤ b) → F r w1) : AppendN e c.sz by_ s n (c.cells new) bs w F := by
  subst hn
  have hlen := h.len
  refine ⟨fun hfit => ?_, fun hgrow => ⟨?_, ?_, c.cells l, h.rowAt, fun cap b cs w1 hcap u hb1 htake hsize => ?_⟩⟩
  · cases hp : s.ptr with
    | none =>
      have h0 := o.nil hp
      have e1 : new = [] := by cases new with | nil => rfl | cons => simp at hfit; omega
      subst e1
      have el : (⟨none, s.len + ([] : List α).length, s.cap⟩ : Sl) = s := by cases s; simp at hp; subst hp; rfl
      show F ⟨none, s.len + ([] : List α).length, s.cap⟩ w
      rw [el]
      exact k s w (by simpa using h) o ((Upd.refl w).wide (by simp)) (fun b hb => .inl hb)
    | some a =>
      obtain ⟨hs, hc⟩ := o.cell a hp
      have hmul : (s.len + new.length) * c.sz ≤ s.cap * c.sz := Nat.mul_le_mul_right _ hfit
      rw [Nat.add_mul] at hmul
      have hlc := c.cells_length new
      have hll := c.cells_length l
      have hrow := h.row
      rw [hp] at hrow
      refine ⟨fun i hi => ?_, ?_, ?_⟩
      · rw [add_add]
        exact hc _ (by omega)
      · simp only [add_block]
        exact hbs _ (by simp [blk_some hp])
      · show F _ (w.setCells (a.add (s.len * c.sz)).block (a.add (s.len * c.sz)).off (c.cells new))
        rw [off_add hs, add_block]
        refine k _ _ ⟨by simp [hlen], ?_⟩ ?_ ((Upd.setCells w a.block _ _).wide (by simp [blk_some hp])) (fun b hb => .inl (by simp [blk_some hp]; simpa [Sl.blk] using hb))
        · rw [c.cells_append]
          refine Cells.mk ?_ ?_
          · have := cells_apart (vs := c.cells new) hs (s.len * c.sz) 0 (by simpa using hrow) (.inl (by rw [hll, hlen]; omega))
            simpa using this
          · rw [hll, ← hlen]
            exact cells_write hs _ (fun i hi => (hc _ (by omega)).1)
        · have := (o.setCells a.block (a.off + s.len * c.sz) (c.cells new))
          exact ⟨by simp; omega, by simp, by simpa [Sl.blk, hp] using this.blk, fun a' ha' => by simp at ha'; subst ha'; exact this.cell a hp⟩
  · have : l.length + new.length ≤ (l.length + new.length) * by_ := Nat.le_mul_of_pos_right _ hpos
    omega
  · rw [hlen]
    rw [hlen] at hgrow
    exact growslice_fits hgrow hb
  · have hll := c.cells_length l
    have hln := c.cells_length new
    have hmul : (s.len + new.length) * c.sz + (cap - (s.len + new.length)) * c.sz = cap * c.sz := by rw [← Nat.add_mul]; congr 1; omega
    rw [Nat.add_mul] at hmul
    have hsz : cs.size = cap * c.sz := by rw [hsize, hll, hln, hlen] at *; omega
    have hget : ∀ i (hi : i < (c.cells l ++ c.cells new).length), cs[i]? = some (c.cells l ++ c.cells new)[i] := by
      intro i hi
      have e1 : (cs.toList.take ((c.cells l).length + (c.cells new).length))[i]? = some (c.cells l ++ c.cells new)[i] := by rw [htake]; exact List.getElem?_eq_getElem hi
      rw [List.getElem?_take, if_pos (by simpa using hi)] at e1
      simpa using e1
    have hbn := u.new (b := b) (by simp)
    refine k _ _ ⟨by simp [hlen], ?_⟩ ?_ ((u.mono (m' := s.blk) (n' := []) (by simp) (by simp))) (fun b' hb' => by simp [Sl.blk] at hb'; subst hb'; exact .inr hbn.1)
    · rw [c.cells_append]
      intro i hi
      rw [add_none, Nat.zero_add, cell_of_block hb1]
      exact hget i hi
    · refine ⟨by simpa using hcap, by simp, fun b' hb' => ?_, fun a ha => ?_⟩
      · simp [Sl.blk] at hb'
        subst hb'
        exact ⟨Nat.le_trans hN hbn.1, hbn.2⟩
      · simp at ha
        subst ha
        refine ⟨rfl, fun i hi => ?_⟩
        rw [add_none, cell_of_block hb1, frozen_of_block hb1]
        simp at hi
        simp [hsz, hi]

/-- append to a slice without room: new memory -/
theorem appendN_full {e by_ n : Nat} {new : List α} {bs : List Nat} {F : Sl → World → Prop} (h : Sees c w s l) (hfull : s.cap ≤ s.len) (hn : n = new.length) (hn0 : 0 < n)
    (hpos : 0 < by_) (hb : (l.length + new.length) * by_ ≤ 140737488355328)
    (k : ∀ r w1, Sees c w1 r (l ++ new) → Own w.heap.size c.sz w1 r → Upd [] [] w w1 → F r w1) : AppendN e c.sz by_ s n (c.cells new) bs w F := by
  subst hn
  have hlen := h.len
  refine ⟨fun hfit => by omega, fun hgrow => ⟨?_, ?_, c.cells l, h.rowAt, fun cap b cs w1 hcap u hb1 htake hsize => ?_⟩⟩
  · have : l.length + new.length ≤ (l.length + new.length) * by_ := Nat.le_mul_of_pos_right _ hpos
    omega
  · rw [hlen]
    rw [hlen] at hgrow
    exact growslice_fits hgrow hb
  · have hll := c.cells_length l
    have hln := c.cells_length new
    have hmul : (s.len + new.length) * c.sz + (cap - (s.len + new.length)) * c.sz = cap * c.sz := by rw [← Nat.add_mul]; congr 1; omega
    rw [Nat.add_mul] at hmul
    have hsz : cs.size = cap * c.sz := by rw [hsize, hll, hln, hlen] at *; omega
    have hget : ∀ i (hi : i < (c.cells l ++ c.cells new).length), cs[i]? = some (c.cells l ++ c.cells new)[i] := by
      intro i hi
      have e1 : (cs.toList.take ((c.cells l).length + (c.cells new).length))[i]? = some (c.cells l ++ c.cells new)[i] := by rw [htake]; exact List.getElem?_eq_getElem hi
      rw [List.getElem?_take, if_pos (by simpa using hi)] at e1
      simpa using e1
    have hbn := u.new (b := b) (by simp)
    refine k _ _ ⟨by simp [hlen], ?_⟩ ?_ u.forget
    · rw [c.cells_append]
      intro i hi
      rw [add_none, Nat.zero_add, cell_of_block hb1]
      exact hget i hi
    · refine ⟨by simpa using hcap, by simp, fun b' hb' => ?_, fun a ha => ?_⟩
      · simp [Sl.blk] at hb'
        subst hb'
        exact hbn
      · simp at ha
        subst ha
        refine ⟨rfl, fun i hi => ?_⟩
        rw [add_none, cell_of_block hb1, frozen_of_block hb1]
        simp at hi
        simp [hsz, hi]

theorem append_own {N e by_ : Nat} {x : Sl} {new : List α} {bs : List Nat} {F : Sl → World → Prop} (h : Sees c w s l) (o : Own N c.sz w s) (hx : Sees c w x new) (hN : N ≤ w.heap.size)
    (hbs : ∀ b ∈ s.blk, b ∉ bs) (hpos : 0 < by_) (hb : (l.length + new.length) * by_ ≤ 140737488355328)
    (k : ∀ r w1, Sees c w1 r (l ++ new) → Own N c.sz w1 r → Upd s.blk [] w w1 → (∀ b ∈ r.blk, b ∈ s.blk ∨ w.heap.size ≤ b) → F r w1) : Append e c.sz by_ s x bs w F :=
  ⟨c.cells new, hx.rowAt, appendN_own h o hN hx.len hbs hpos hb k⟩
/-- an element is written -/
theorem own_set {N : Nat} {i : Nat} {x : α} {vs : List Value} {bs : List Nat} {F : World → Prop} (h : Sees c w s l) (o : Own N c.sz w s) (hz : 0 < c.sz) (hi : i < l.length) (hv : vs = c.enc x) (hbs : ∀ b ∈ s.blk, b ∉ bs)
    (k : ∀ w1, Sees c w1 s (l.set i x) → Own N c.sz w1 s → Upd s.blk [] w w1 → F w1) : Store w (s.at c.sz i) vs bs F := by
  subst hv
  obtain ⟨a, hp⟩ := h.ptr_some hz (by omega)
  obtain ⟨hs, hc⟩ := o.cell a hp
  have hat : s.at c.sz i = a.add (i * c.sz) := by simp [Sl.at, hp]
  have hlen := h.len
  have hle := o.le
  have hlx := c.len x
  have hrow := h.row
  rw [hp] at hrow
  have hm : ∀ j, j < c.sz → i * c.sz + j < s.cap * c.sz := fun j hj => mul_add_lt (by omega) hj
  refine ⟨fun j hj => ?_, ?_, ?_⟩
  · rw [hat, add_add]
    exact hc _ (hm j (by omega))
  · rw [hat, add_block]
    exact hbs _ (by simp [blk_some hp])
  · rw [hat, off_add hs, add_block]
    refine k _ ⟨by simpa using hlen, ?_⟩ (o.setCells _ _ _) ((Upd.setCells w a.block _ _).wide (by simp [blk_some hp]))
    rw [hp]
    have e1 : l.set i x = l.take i ++ x :: l.drop (i + 1) := by rw [List.set_eq_take_append_cons_drop, if_pos hi]
    have e2 : l = l.take i ++ l.drop i := (List.take_append_drop i l).symm
    have e3 : l.drop i = l[i] :: l.drop (i + 1) := List.drop_eq_getElem_cons hi
    rw [e1, c.cells_append, c.cells_cons]
    have h1 : (c.cells (l.take i)).length = i * c.sz := by rw [c.cells_length, List.length_take]; congr 1; omega
    have hrow' : Cells w (some a) (c.cells (l.take i) ++ (c.enc l[i] ++ c.cells (l.drop (i + 1)))) := by
      rw [← c.cells_cons, ← e3, ← c.cells_append, ← e2]; exact hrow
    obtain ⟨r1, r2⟩ := hrow'.app
    obtain ⟨r3, r4⟩ := r2.app
    rw [h1] at r4
    rw [add_add, c.len] at r4
    refine Cells.mk ?_ (Cells.mk ?_ ?_)
    · have := cells_apart (vs := c.enc x) hs (i * c.sz) 0 (by simpa using r1) (.inl (by omega))
      simpa using this
    · rw [h1]
      exact cells_write hs _ (fun j hj => (hc _ (hm j (by omega))).1)
    · rw [h1, add_add, hlx]
      exact cells_apart hs _ _ r4 (.inr (by omega))

/-- a new row -/
theorem sees_row {b e n cap : Nat} {f : Nat × Nat} {cs : List Value} (h : w.heap[b]? = some (.cells cs.toArray e f)) (l : List α) (hl : cs = c.cells l) (hn : n = l.length) : Sees c w ⟨some ⟨b, 0, none⟩, n, cap⟩ l := by
  subst hl hn
  refine ⟨rfl, fun i hi => ?_⟩
  rw [add_none, cell_of_block h]
  simp [hi]
theorem own_row {N b e n cap : Nat} {cs : List Value} {sz : Nat} (h : w.heap[b]? = some (.cells cs.toArray e (0, 0))) (hN : N ≤ b) (hl : cs.length = cap * sz) (hn : n ≤ cap) : Own N sz w ⟨some ⟨b, 0, none⟩, n, cap⟩ where
  le := hn
  nil := by simp
  blk b' hb := by simp [Sl.blk] at hb; subst hb; exact ⟨hN, (Array.getElem?_eq_some_iff.1 h).1⟩
  cell a ha := by
    simp at ha
    subst ha
    refine ⟨rfl, fun i hi => ?_⟩
    rw [add_none, cell_of_block h, frozen_of_block h]
    simp at hi
    simp [hl, hi]

theorem copy_own {N : Nat} {x : Sl} {m : List α} {bs : List Nat} {F : World → Prop} (h : Sees c w s l) (o : Own N c.sz w s) (hx : Sees c w x m) (hbs : ∀ b ∈ s.blk, b ∉ bs)
    (k : ∀ w1, Sees c w1 s (m.take l.length ++ l.drop m.length) → Own N c.sz w1 s → Upd s.blk [] w w1 → F w1) : Copy c.sz s x bs w F := by
  have hlen := h.len
  have hxl := hx.len
  have hle := o.le
  refine ⟨c.cells (m.take l.length), ?_, ?_⟩
  · have := (hx.take (n := min m.length l.length) (by omega) 0).rowAt
    rw [show Nat.min x.len s.len = min m.length l.length by rw [hxl, hlen]]
    have e : m.take (min m.length l.length) = m.take l.length := by rw [List.take_eq_take_iff]; omega
    rw [e] at this
    exact this
  · cases hp : s.ptr with
    | none =>
      have h0 := o.nil hp
      have e1 : l = [] := by cases l with | nil => rfl | cons => simp at hlen; omega
      subst e1
      simp only
      exact k w (by simpa using h) o ((Upd.refl w).wide (by simp))
    | some a =>
      obtain ⟨hs, hc⟩ := o.cell a hp
      have hrow := h.row
      rw [hp] at hrow
      have h1 : (c.cells (m.take l.length)).length = min l.length m.length * c.sz := by rw [c.cells_length, List.length_take]
      have hm : (c.cells (m.take l.length)).length ≤ s.cap * c.sz := by rw [h1]; exact Nat.mul_le_mul_right _ (by omega)
      refine ⟨fun i hi => hc i (by omega), hbs _ (by simp [blk_some hp]), ?_⟩
      refine k _ ⟨by simp; omega, ?_⟩ (o.setCells _ _ _) ((Upd.setCells w a.block _ _).wide (by simp [blk_some hp]))
      rw [hp, c.cells_append]
      refine Cells.mk ?_ ?_
      · have := cells_write (w := w) (vs := c.cells (m.take l.length)) hs 0 (fun i hi => by simpa using (hc i (by omega)).1)
        simpa using this
      · have hd : l.drop m.length = l.drop (min l.length m.length) := by
          by_cases g : m.length ≤ l.length
          · rw [Nat.min_eq_right g]
          · rw [List.drop_of_length_le (by omega), List.drop_of_length_le (by omega)]
        rw [hd, h1]
        have e2 : Cells w (some a) (c.cells (l.take (min l.length m.length)) ++ c.cells (l.drop (min l.length m.length))) := by rw [← c.cells_append, List.take_append_drop]; exact hrow
        have r := e2.app.2
        have h2 : (c.cells (l.take (min l.length m.length))).length = min l.length m.length * c.sz := by rw [c.cells_length, List.length_take]; congr 1; omega
        rw [h2] at r
        have := cells_apart (vs := c.cells (m.take l.length)) hs 0 _ r (.inr (by omega))
        simpa using this
end

theorem Cod.cells_map1 {α : Type} {c : Cod α} {g : α → Value} (h : ∀ x, c.enc x = [g x]) : ∀ (l : List α), c.cells l = l.map g
  | [] => rfl
  | x :: l => by rw [Cod.cells_cons, h, Cod.cells_map1 h l]; rfl

/-! ### bytes -/
def cU8 : Cod Int := ⟨1, fun n => [.int .u8 n], fun _ => rfl, by simp [Value.oneCell']⟩
def cI64 : Cod Int := ⟨1, fun n => [.int .i64 n], fun _ => rfl, by simp [Value.oneCell']⟩
def cSl : Cod Sl := ⟨1, fun s => [s.val], fun _ => rfl, by simp [Value.oneCell', Sl.val]⟩
abbrev SeesB (w : World) (s : Sl) (l : List Int) : Prop := Sees cU8 w s l
/-- the byte at a place (0 outside) -/
def bt (l : List Int) (i : Int) : Int := l.getD i.toNat 0
def Byt (l : List Int) : Prop := ∀ x ∈ l, 0 ≤ x ∧ x < 256
theorem Byt.bt {l : List Int} (h : Byt l) (i : Int) : 0 ≤ bt l i ∧ bt l i < 256 := by
  unfold Go.Vc.bt
  rw [List.getD_eq_getElem?_getD]
  by_cases hi : i.toNat < l.length
  · rw [List.getElem?_eq_getElem hi]; exact h _ (List.getElem_mem hi)
  · rw [List.getElem?_eq_none (by omega)]; simp
theorem Byt.app {l m : List Int} (h : Byt l) (k : Byt m) : Byt (l ++ m) := fun x hx => by rcases List.mem_append.1 hx with h' | h'; exact h x h'; exact k x h'
theorem Byt.nil : Byt [] := by simp [Byt]
theorem Byt.take {l : List Int} (h : Byt l) (n : Nat) : Byt (l.take n) := fun x hx => h x (List.mem_of_mem_take hx)
theorem Byt.drop {l : List Int} (h : Byt l) (n : Nat) : Byt (l.drop n) := fun x hx => h x (List.mem_of_mem_drop hx)
theorem Byt.set {l : List Int} (h : Byt l) (n : Nat) {v : Int} (hv : 0 ≤ v ∧ v < 256) : Byt (l.set n v) := fun x hx => by
  rcases List.mem_or_eq_of_mem_set hx with h' | h'
  · exact h x h'
  · subst h'; exact hv
theorem Sees.byte {w : World} {s : Sl} {l : List Int} (h : Sees cU8 w s l) {i : Int} (h0 : 0 ≤ i) (hi : i < l.length) : w.cell? (s.at 1 i.toNat) = some (.int .u8 (bt l i)) := by
  have := h.elem (i := i.toNat) (by omega) 0 (by simp [cU8])
  rw [add_zero] at this
  rw [show cU8.sz = 1 from rfl] at this
  rw [this]
  simp [cU8, bt, List.getD_eq_getElem?_getD, List.getElem?_eq_getElem (show i.toNat < l.length by omega)]
theorem Sees.subB {w : World} {s : Sl} {l : List Int} (h : Sees cU8 w s l) {lo hi mx : Nat} (h1 : lo ≤ hi) (h2 : hi ≤ l.length) (h3 : hi ≤ mx) : Sees cU8 w (s.sub 1 lo hi mx) ((l.take hi).drop lo) := h.sub h1 h2 h3
end Go.Vc
end

section
namespace Go.Vc
set_option linter.unusedVariables false
set_option linter.unusedSimpArgs false
set_option autoImplicit false

/-! ### steps of a statement -/
section
variable {X Y : Prop}
theorem brd {p : Prop} [Decidable p] (h1 : p → X) (h2 : ¬p → Y) : Br (decide p) X Y := Br_iff.2 ⟨fun h => h1 (of_decide_eq_true h), fun h => h2 (of_decide_eq_false h)⟩
theorem brb {c : Bool} (h1 : c = true → X) (h2 : c = false → Y) : Br c X Y := Br_iff.2 ⟨h1, h2⟩
theorem brn {c : Bool} (h1 : c = false → X) (h2 : c = true → Y) : Br (!c) X Y := Br_iff.2 ⟨fun h => h1 (by simpa using h), fun h => h2 (by simpa using h)⟩
theorem bre {α : Type} [BEq α] [LawfulBEq α] {a b : α} (h1 : a = b → X) (h2 : a ≠ b → Y) : Br (a == b) X Y := Br_iff.2 ⟨fun h => h1 (by simpa using h), fun h => h2 (by simpa using h)⟩
theorem bre' {α : Type} [BEq α] [LawfulBEq α] {a b : α} (h1 : a ≠ b → X) (h2 : a = b → Y) : Br (a != b) X Y := Br_iff.2 ⟨fun h => h1 (by simpa using h), fun h => h2 (by simpa using h)⟩
theorem brt {c : Bool} (h : c = true) (x : X) : Br c X Y := by subst h; exact x
theorem brf {c : Bool} (h : c = false) (y : Y) : Br c X Y := by subst h; exact y
theorem need {c : Bool} (h : c = true) (x : X) : Need c X := Need_iff.2 ⟨h, x⟩
theorem needIx {i n : Int} {o : Option Addr} (h0 : 0 ≤ i) (h1 : i < n) (h2 : o.isSome = true) (x : X) : Need (decide (0 ≤ i) && decide (i < n) && o.isSome) X := need (by simp [h0, h1, h2]) x
theorem needIx2 {i n : Int} (h0 : 0 ≤ i) (h1 : i < n) (x : X) : Need (decide (0 ≤ i) && decide (i < n)) X := need (by simp [h0, h1]) x
theorem needNe {a b : Int} (h : a ≠ b) (x : X) : Need (a != b) X := need (by simp [h]) x
end

/-! ### numbers -/
theorem wr_i64 {x : Int} (h1 : -9223372036854775808 ≤ x) (h2 : x ≤ 9223372036854775807) : wr .i64 x = x := by
  unfold wr IntKind.wrap
  simp only [IntKind.bits, IntKind.signed, Bool.true_and, decide_eq_true_eq, ge_iff_le]
  split <;> omega
theorem wr_succ {q : Nat} (h : q < 9223372036854775807) : wr .i64 ((q : Int) + 1) = ((q + 1 : Nat) : Int) := by rw [wr_i64 (by omega) (by omega)]; omega
theorem wr_u64 {x : Int} (h1 : 0 ≤ x) (h2 : x ≤ 18446744073709551615) : wr .u64 x = x := by
  unfold wr IntKind.wrap
  simp only [IntKind.bits, IntKind.signed, Bool.false_and, Bool.false_eq_true, if_false]
  omega
theorem wr_u8 (x : Int) : wr .u8 x = x % 256 := by
  unfold wr IntKind.wrap
  simp only [IntKind.bits, IntKind.signed, Bool.false_and, Bool.false_eq_true, if_false]
  omega
theorem wr_u8_range (x : Int) : 0 ≤ wr .u8 x ∧ wr .u8 x < 256 := by rw [wr_u8]; omega

theorem ofInt_toNat {n : Nat} {a : Int} (h : 0 ≤ a) (h1 : a < 2 ^ n) : (BitVec.ofInt n a).toNat = a.toNat := by
  rw [BitVec.toNat_ofInt]
  rw [Int.emod_eq_of_lt h (by exact_mod_cast h1)]
theorem wr_nat_i64 {n : Nat} (h : n < 9223372036854775808) : (IntKind.i64).wrap (n : Int) = n := by have := wr_i64 (x := n) (by omega) (by omega); exact this

theorem ior_nat {a b : Int} (ha : 0 ≤ a) (ha1 : a < 9223372036854775808) (hb : 0 ≤ b) (hb1 : b < 9223372036854775808) : ior .i64 a b = ((a.toNat ||| b.toNat : Nat) : Int) := by
  unfold ior ibits
  rw [BitVec.toNat_or, ofInt_toNat ha (by simp only [IntKind.bits]; omega), ofInt_toNat hb (by simp only [IntKind.bits]; omega)]
  have : a.toNat ||| b.toNat < 2 ^ 63 := Nat.or_lt_two_pow (by omega) (by omega)
  exact wr_nat_i64 (by omega)
theorem iand_u8 {a b : Int} (ha : 0 ≤ a) (ha1 : a < 256) (hb : 0 ≤ b) (hb1 : b < 256) : iand .u8 a b = ((a.toNat &&& b.toNat : Nat) : Int) := by
  unfold iand ibits
  rw [BitVec.toNat_and, ofInt_toNat ha (by simp only [IntKind.bits]; omega), ofInt_toNat hb (by simp only [IntKind.bits]; omega)]
  have : a.toNat &&& b.toNat ≤ a.toNat := Nat.and_le_left
  have h := wr_u8 ((a.toNat &&& b.toNat : Nat) : Int)
  unfold wr at h
  rw [h]; omega
theorem ior_u8 {a b : Int} (ha : 0 ≤ a) (ha1 : a < 256) (hb : 0 ≤ b) (hb1 : b < 256) : ior .u8 a b = ((a.toNat ||| b.toNat : Nat) : Int) := by
  unfold ior ibits
  rw [BitVec.toNat_or, ofInt_toNat ha (by simp only [IntKind.bits]; omega), ofInt_toNat hb (by simp only [IntKind.bits]; omega)]
  have : a.toNat ||| b.toNat < 2 ^ 8 := Nat.or_lt_two_pow (by omega) (by omega)
  have h := wr_u8 ((a.toNat ||| b.toNat : Nat) : Int)
  unfold wr at h
  rw [h]; omega

/-- a mask of low bits, of any number -/
theorem iand_mask {a : Int} (m : Nat) (hm : m < 63) : iand .i64 a (2 ^ m - 1) = a % 2 ^ m := by
  have hp : (2 : Int) ^ m < 2 ^ 63 := by exact_mod_cast Nat.pow_lt_pow_right (by omega) hm
  have hp' : (2 : Nat) ^ m < 2 ^ 63 := Nat.pow_lt_pow_right (by omega) hm
  have h1 : (1 : Nat) ≤ 2 ^ m := Nat.one_le_two_pow
  unfold iand ibits
  rw [BitVec.toNat_and]
  have e1 : (BitVec.ofInt (IntKind.i64).bits (2 ^ m - 1)).toNat = 2 ^ m - 1 := by
    rw [ofInt_toNat (by have : (1 : Int) ≤ 2 ^ m := by exact_mod_cast h1
                        omega) (by simp only [IntKind.bits]; omega)]
    have : ((2 : Int) ^ m - 1) = ((2 ^ m - 1 : Nat) : Int) := by push_cast [h1]; rfl
    rw [this]; rfl
  rw [e1, Nat.and_two_pow_sub_one_eq_mod]
  have e2 : (((BitVec.ofInt (IntKind.i64).bits a).toNat % 2 ^ m : Nat) : Int) = a % 2 ^ m := by
    rw [BitVec.toNat_ofInt]
    push_cast
    rw [Int.toNat_of_nonneg (Int.emod_nonneg _ (by simp [IntKind.bits]))]
    exact Int.emod_emod_of_dvd a (by simp only [IntKind.bits]; exact ⟨2 ^ (64 - m), by rw [← Int.pow_add]; congr 1; omega⟩)
  rw [e2]
  have h3 : 0 ≤ a % 2 ^ m := Int.emod_nonneg _ (by exact_mod_cast (Nat.pos_iff_ne_zero.1 h1))
  have h4 : a % 2 ^ m < 2 ^ m := Int.emod_lt_of_pos _ (by exact_mod_cast h1)
  exact wr_i64 (by omega) (by omega)
theorem and_65535 (a : Int) : iand .i64 a 65535 = a % 65536 := iand_mask 16 (by omega)
theorem and_1 (a : Int) : iand .i64 a 1 = a % 2 := iand_mask 1 (by omega)
theorem gshr_i64 (a b : Int) (h : b ≤ 64) : gshr .i64 a b = a.fdiv (2 ^ b.toNat) := by
  unfold gshr
  rw [Nat.min_eq_left (by simp only [IntKind.bits]; omega)]
theorem gshr8 (a : Int) : gshr .i64 a 8 = a / 256 := by rw [gshr_i64 _ _ (by omega)]; exact Int.fdiv_eq_ediv_of_nonneg _ (by decide)
theorem gshr16 (a : Int) : gshr .i64 a 16 = a / 65536 := by rw [gshr_i64 _ _ (by omega)]; exact Int.fdiv_eq_ediv_of_nonneg _ (by decide)
theorem gshl_i64 (a b : Int) (h : b ≤ 64) : gshl .i64 a b = wr .i64 (a * 2 ^ b.toNat) := by
  unfold gshl
  rw [Nat.min_eq_left (by simp only [IntKind.bits]; omega)]; rfl
theorem gshl8 (a : Int) : gshl .i64 a 8 = wr .i64 (a * 256) := gshl_i64 a 8 (by omega)
/-- high and low bits together -/
theorem ior_add {a b : Int} (m : Nat) (ha : 0 ≤ a) (ha1 : a < 9223372036854775808) (hd : a % 2 ^ m = 0) (hb : 0 ≤ b) (hb1 : b < 2 ^ m) (hm : m < 63) : ior .i64 a b = a + b := by
  have hp : (2 : Int) ^ m < 2 ^ 63 := by exact_mod_cast Nat.pow_lt_pow_right (by omega) hm
  rw [ior_nat ha ha1 hb (by omega)]
  have e : a.toNat = 2 ^ m * (a.toNat / 2 ^ m) := by
    have h1 : a.toNat % 2 ^ m = 0 := by
      have : ((a.toNat % 2 ^ m : Nat) : Int) = 0 := by push_cast; rw [Int.toNat_of_nonneg ha]; exact hd
      exact_mod_cast this
    have := Nat.div_add_mod a.toNat (2 ^ m)
    omega
  have hb2 : b.toNat < 2 ^ m := by
    have : ((b.toNat : Nat) : Int) < ((2 ^ m : Nat) : Int) := by push_cast; omega
    exact_mod_cast this
  rw [e, ← Nat.two_pow_add_eq_or_of_lt hb2, ← e]
  push_cast
  omega

theorem tmod_pos {a b : Int} (h : 0 ≤ a) : Int.tmod a b = a % b := Int.tmod_eq_emod_of_nonneg h
theorem tdiv_pos {a b : Int} (h : 0 ≤ a) : Int.tdiv a b = a / b := Int.tdiv_eq_ediv_of_nonneg h
end Go.Vc
end

section
open Go Go.Vc Go.Vc.S9 Go.Proofs
set_option maxRecDepth 100000
set_option linter.unusedVariables false
namespace Go.Vc.S9
def a1053 : Ann := (.seq .leaf (.cut [] [] (.seq .leaf (.cond .leaf .leaf)) (.seq (.seq .leaf (.block (.loop [(.t 5, (.int .i64))] [] (.seq (.seq .leaf (.cond .leaf .leaf)) (.seq (.block .leaf) .leaf))))) (.seq (.seq .leaf (.block (.loop [(.t 6, (.int .i64))] [] (.seq (.seq .leaf (.cond .leaf .leaf)) (.cut [] [] (.block (.cut [] [] (.seq .leaf (.cond .leaf .leaf)) (.drawK [] (.early 0 (.early 1 (.early 2 (.early 3 (.early 4 (.early 5 (.early 6 (.early 7 (.early 8 (.early 9 (.early 10 (.early 11 (.early 12 (.early 13 (.early 14 (.early 15 (.early 16 (.early 17 (.early 18 (.early 19 (.early 20 (.early 21 (.fork [(22, (.early 23 (.early 24 (.fork [(25, .done)]))))])))))))))))))))))))))))))) .leaf))))) (.seq .leaf (.seq .leaf .leaf))))))
def vc53 (r : Option Addr) (l : Sl) (w : World) (R : SV → World → Prop) : Prop :=
  ∀ (J : World → Prop),
    (∀ (w1 : World),
        (∃ (I : Int → World → Prop),
            ∃ (M : Int → World → Nat),
              I 0 w1 ∧
                ∀ (n : Int) (w1 : World),
                  I n w1 →
                    deref r fun (a : Addr) =>
                      ∃ (s : Sl),
                        World.cell? w1 a = some (Sl.val s) ∧
                          Br (decide (n < (↑s.2 : Int)))
                            (deref r fun (a : Addr) =>
                              ∃ (s : Sl),
                                World.cell? w1 a = some (Sl.val s) ∧
                                  Need (decide (0 ≤ n) && decide (n < (↑s.2 : Int)) && Option.isSome s.1)
                                    (Store w1 (Sl.at s 2 (Int.toNat n))
                                      (SV.cells (SV.struct [SV.int IntKind.i64 (wr IntKind.i64 (-500 - n)), SV.slice { ptr := none, len := 0, cap := 0 }])) [] fun (w1_1 : World) =>
                                      I (wr IntKind.i64 (n + 1)) w1_1 ∧ M (wr IntKind.i64 (n + 1)) w1_1 < M n w1))
                            (∃ (I : Int → World → Prop),
                              ∃ (M : Int → World → Nat),
                                I 0 w1 ∧
                                  ∀ (n : Int) (w1 : World),
                                    I n w1 →
                                      Br (decide (n < (↑l.2 : Int)))
                                        (∀ (J : World → Prop),
                                          (∀ (w1_1 : World), I (wr IntKind.i64 (n + 1)) w1_1 ∧ M (wr IntKind.i64 (n + 1)) w1_1 < M n w1 → J w1_1) →
                                            ∀ (J_1 : World → Prop),
                                              (∀ (w1 : World),
                                                  (∃ (bs : List Nat),
                                                      (∀ (b : Nat), b ∈ bs → b < List.length (World.heap w1).1) ∧
                                                        deref r fun (a : Addr) =>
                                                          Addr.block a ∈ bs ∧
                                                            ∃ (s : Sl),
                                                              World.cell? w1 a = some (Sl.val s) ∧
                                                                Need (decide (0 ≤ n) && decide (n < (↑l.2 : Int)) && Option.isSome l.1)
                                                                  (Addr.block (Sl.at l 2 (Int.toNat n)) ∈ bs ∧
                                                                    ∃ (n_1 : Int),
                                                                      World.cell? w1 (Sl.at l 2 (Int.toNat n)) = some (Value.int IntKind.i64 n_1) ∧
                                                                        deref r fun (a : Addr) =>
                                                                          Addr.block (Addr.add a 2) ∈ bs ∧
                                                                            ∃ (s_1 : Sl),
                                                                              World.cell? w1 (Addr.add a 2) = some (Sl.val s_1) ∧
                                                                                Need (decide (0 ≤ n) && decide (n < (↑s_1.2 : Int)) && Option.isSome s_1.1)
                                                                                  (Addr.block (Sl.at s_1 1 (Int.toNat n)) ∈ bs ∧
                                                                                    ∃ (p : Option Addr),
                                                                                      World.cell? w1 (Sl.at s_1 1 (Int.toNat n)) = some (Value.pointer p) ∧
                                                                                        Need (decide (0 ≤ n) && decide (n < (↑l.2 : Int)) && Option.isSome l.1)
                                                                                          (Addr.block (Addr.add (Sl.at l 2 (Int.toNat n)) 1) ∈ bs ∧
                                                                                            ∃ (s_2 : Sl),
                                                                                              World.cell? w1 (Addr.add (Sl.at l 2 (Int.toNat n)) 1) = some (Sl.val s_2) ∧
                                                                                                ∀ (w1_1 : World),
                                                                                                  Upd [] [] w1 w1_1 →
                                                                                                    Ret Tryd.prog 43 [SV.ptr p, SV.slice s_2] w1_1 fun (r : SV) (w1_2 : World) =>
                                                                                                      ∃ (s_3 : Sl),
                                                                                                        r = SV.slice s_3 ∧
                                                                                                          Kept bs w1 w1_2 ∧
                                                                                                            Need (decide (0 ≤ n) && decide (n < (↑s.2 : Int)) && Option.isSome s.1)
                                                                                                              (Store w1_2 (Sl.at s 2 (Int.toNat n))
                                                                                                                (SV.cells (SV.struct [SV.int IntKind.i64 n_1, SV.slice s_3])) []
                                                                                                                fun (w1 : World) => J w1))))) →
                                                    J_1 w1) →
                                                deref r fun (a : Addr) =>
                                                  ∃ (s : Sl),
                                                    World.cell? w1 (Addr.add a 2) = some (Sl.val s) ∧
                                                      Br (decide ((↑s.2 : Int) ≤ n))
                                                        (deref r fun (a : Addr) =>
                                                          ∃ (s : Sl),
                                                            World.cell? w1 (Addr.add a 2) = some (Sl.val s) ∧
                                                              ∀ (b : Nat) (w1_1 : World),
                                                                Upd [] [b] w1 w1_1 →
                                                                  (World.heap w1_1)[b]? =
                                                                      some
                                                                        (Obj.cells
                                                                          { toList := SV.cells (SV.struct [SV.slice { ptr := none, len := 0, cap := 0 }, SV.int IntKind.i64 0]) }
                                                                          76) →
                                                                    ∀ (b_1 : Nat) (w1 : World),
                                                                      Upd [] [b_1] w1_1 w1 →
                                                                        (World.heap w1)[b_1]? =
                                                                            some (Obj.cells { toList := SV.cells (SV.struct [SV.ptr (some { block := b, off := 0 })]) } 74) →
                                                                          Vc.Append 74 1 8 s { ptr := some { block := b_1, off := 0 }, len := 1, cap := 1 } [] w1
                                                                            fun (r_1 : Sl) (w : World) =>
                                                                            deref r fun (a : Addr) => Store w (Addr.add a 2) (SV.cells (SV.slice r_1)) [] fun (w1 : World) => J_1 w1)
                                                        (J_1 w1))
                                        (deref r fun (a : Addr) =>
                                          Store w1 (Addr.add a 1) (SV.cells (SV.int IntKind.i64 (↑l.2 : Int))) [] fun (w1 : World) =>
                                            deref r fun (a : Addr) =>
                                              ∃ (s : Sl),
                                                World.cell? w1 a = some (Sl.val s) ∧
                                                  Need (decide (0 ≤ (↑l.2 : Int)) && decide ((↑l.2 : Int) ≤ (↑s.3 : Int)))
                                                    (R (SV.slice (Sl.sub s 2 0 (Int.toNat (↑l.2 : Int)) s.3)) w1)))) →
          J w1) →
      deref r fun (a : Addr) =>
        ∃ (s : Sl),
          World.cell? w a = some (Sl.val s) ∧
            Br (decide ((↑s.2 : Int) < wr IntKind.i64 (wr IntKind.i64 (2 * (↑l.2 : Int)) + 9)))
              (Need
                (decide (0 ≤ wr IntKind.i64 (wr IntKind.i64 (2 * (↑l.2 : Int)) + 20)) &&
                      decide (wr IntKind.i64 (wr IntKind.i64 (2 * (↑l.2 : Int)) + 20) ≤ wr IntKind.i64 (wr IntKind.i64 (2 * (↑l.2 : Int)) + 20)) &&
                    decide (wr IntKind.i64 (wr IntKind.i64 (2 * (↑l.2 : Int)) + 20) ≤ 281474976710656) &&
                  decide (32 * wr IntKind.i64 (wr IntKind.i64 (2 * (↑l.2 : Int)) + 20) ≤ 281474976710656))
                (∀ (b : Nat) (w1 : World),
                  Upd [] [b] w w1 →
                    (World.heap w1)[b]? =
                        some
                          (Obj.cells { toList := zerosOf (Ty.struct false [Ty.int IntKind.i64, Ty.slice 5]) (Int.toNat (wr IntKind.i64 (wr IntKind.i64 (2 * (↑l.2 : Int)) + 20))) }
                            60) →
                      deref r fun (a : Addr) =>
                        Store w1 a
                          (SV.cells
                            (SV.slice
                              { ptr := some { block := b, off := 0 }, len := Int.toNat (wr IntKind.i64 (wr IntKind.i64 (2 * (↑l.2 : Int)) + 20)),
                                cap := Int.toNat (wr IntKind.i64 (wr IntKind.i64 (2 * (↑l.2 : Int)) + 20)) }))
                          [] fun (w1 : World) => J w1))
              (J w)
theorem f53_of (r : Option Addr) (l : Sl) (w : World) (R : SV → World → Prop) (hV : vc53 r l w R) : Ret Tryd.prog 53 [.ptr r, .slice l] w R :=
  have e : vc53 r l w R = fnVC X Tryd.f53 a1053 [.ptr r, .slice l] w R := by kernel_rfl
  fnVC_sound X_ok (n := a1053) (e ▸ hV) (by kernel_rfl) (by kernel_rfl) rfl rfl

def vc62 (r : Option Addr) (l : Sl) (w : World) (R : SV → World → Prop) : Prop :=
  ∀ (J : World → Prop),
    (∀ (w1 : World),
        (∃ (I : Int → World → Prop),
            ∃ (M : Int → World → Nat),
              I 0 w1 ∧
                ∀ (n : Int) (w1 : World),
                  I n w1 →
                    Br (decide (n < (↑l.2 : Int)))
                      (deref r fun (a : Addr) =>
                        ∃ (s : Sl),
                          World.cell? w1 (Addr.add a 2) = some (Sl.val s) ∧
                            Need (decide (0 ≤ n) && decide (n < (↑s.2 : Int)) && Option.isSome s.1)
                              (∃ (p : Option Addr),
                                World.cell? w1 (Sl.at s 1 (Int.toNat n)) = some (Value.pointer p) ∧
                                  Need (decide (0 ≤ n) && decide (n < (↑l.2 : Int)) && Option.isSome l.1)
                                    (∃ (s : Sl),
                                      World.cell? w1 (Addr.add (Sl.at l 2 (Int.toNat n)) 1) = some (Sl.val s) ∧
                                        ∀ (w1_1 : World),
                                          Upd [] [] w1 w1_1 →
                                            Ret Tryd.prog 48 [SV.ptr p, SV.slice s] w1_1 fun (r : SV) (w1_2 : World) =>
                                              ∃ (b : Bool),
                                                r = SV.bool b ∧ Br (!b) (R (SV.bool false) w1_2) (I (wr IntKind.i64 (n + 1)) w1_2 ∧ M (wr IntKind.i64 (n + 1)) w1_2 < M n w1))))
                      (∃ (I : Int → World → Prop),
                        ∃ (M : Int → World → Nat),
                          I (↑l.2 : Int) w1 ∧
                            ∀ (n : Int) (w1 : World),
                              I n w1 →
                                deref r fun (a : Addr) =>
                                  ∃ (s : Sl),
                                    World.cell? w1 a = some (Sl.val s) ∧
                                      Br (decide (n < (↑s.2 : Int)))
                                        (∀ (J : World → Prop),
                                          (∀ (w1_1 : World), I (wr IntKind.i64 (n + 1)) w1_1 ∧ M (wr IntKind.i64 (n + 1)) w1_1 < M n w1 → J w1_1) →
                                            deref r fun (a : Addr) =>
                                              ∃ (s : Sl),
                                                World.cell? w1 a = some (Sl.val s) ∧
                                                  Need (decide (0 ≤ n) && decide (n < (↑s.2 : Int)) && Option.isSome s.1)
                                                    (∃ (n_1 : Int),
                                                      World.cell? w1 (Sl.at s 2 (Int.toNat n)) = some (Value.int IntKind.i64 n_1) ∧
                                                        Br (n_1 != wr IntKind.i64 (-500 - n)) (R (SV.bool false) w1)
                                                          (deref r fun (a : Addr) =>
                                                            ∃ (s : Sl),
                                                              World.cell? w1 a = some (Sl.val s) ∧
                                                                Need (decide (0 ≤ n) && decide (n < (↑s.2 : Int)) && Option.isSome s.1)
                                                                  (∃ (s_1 : Sl),
                                                                    World.cell? w1 (Addr.add (Sl.at s 2 (Int.toNat n)) 1) = some (Sl.val s_1) ∧
                                                                      Br ((↑s_1.2 : Int) != 0) (R (SV.bool false) w1) (J w1)))))
                                        (R (SV.bool true) w1))) →
          J w1) →
      deref r fun (a : Addr) =>
        ∃ (n : Int),
          World.cell? w (Addr.add a 1) = some (Value.int IntKind.i64 n) ∧
            Br (n != (↑l.2 : Int)) (∀ (w1 : World), Upd [] [] w w1 → R (SV.bool false) w1)
              (deref r fun (a : Addr) =>
                ∃ (s : Sl),
                  World.cell? w a = some (Sl.val s) ∧
                    deref r fun (a : Addr) =>
                      ∃ (n : Int),
                        World.cell? w (Addr.add a 1) = some (Value.int IntKind.i64 n) ∧
                          Need (decide (0 ≤ n) && decide (n ≤ (↑s.3 : Int)))
                            (∀ (w1 : World),
                              Upd [] [] w w1 →
                                Ret Tryd.prog 47 [SV.slice (Sl.sub s 2 0 (Int.toNat n) s.3), SV.slice l] w1 fun (r : SV) (w1 : World) =>
                                  ∃ (b : Bool), r = SV.bool b ∧ Br (!b) (R (SV.bool false) w1) (J w1)))
theorem f62_of (r : Option Addr) (l : Sl) (w : World) (R : SV → World → Prop) (hV : vc62 r l w R) : Ret Tryd.prog 62 [.ptr r, .slice l] w R :=
  have e : vc62 r l w R = fnVC X Tryd.f62 a62 [.ptr r, .slice l] w R := by kernel_rfl
  fnVC_sound X_ok (n := a62) (e ▸ hV) (by kernel_rfl) (by kernel_rfl) rfl rfl

def vc64 (data : Sl) (l : Sl) (t : Nat → Int) (w : World) (R : SV → World → Prop) : Prop :=
  ∀ (b : Nat) (J : World → Prop),
    (∀ (w1 : World),
        Br ((↑l.2 : Int) == 0) (R (SV.tuple []) w1)
            (Ret Tryd.prog 50 [SV.int IntKind.i64 (t 0), SV.int IntKind.i64 (↑l.2 : Int)] w1 fun (r : SV) (w1_1 : World) =>
              ∃ (n : Int),
                r = SV.int IntKind.i64 n ∧
                  Keeps [b] w1 w1_1 ∧
                    Need (decide (0 ≤ n) && decide (n < (↑l.2 : Int)) && Option.isSome l.1)
                      (∃ (s : Sl),
                        World.cell? w1_1 (Addr.add (Sl.at l 2 (Int.toNat n)) 1) = some (Sl.val s) ∧
                          Br (decide ((↑s.2 : Int) > 0))
                            (∀ (w1 : World),
                              Upd [] [] w1_1 w1 →
                                Ret Tryd.prog 50 [SV.int IntKind.i64 (t 0), SV.int IntKind.i64 (↑s.2 : Int)] w1 fun (r : SV) (w1_2 : World) =>
                                  ∃ (n : Int),
                                    r = SV.int IntKind.i64 n ∧
                                      Keeps [b] w1 w1_2 ∧
                                        Upd [] [] w1_1 w1_2 ∧
                                          Need (decide (0 ≤ n) && decide (n < (↑s.2 : Int)) && Option.isSome s.1)
                                            (Store w1_2 (Sl.at s 1 (Int.toNat n)) (SV.cells (SV.int IntKind.u8 (wr IntKind.u8 (t 1)))) [b] fun (w1 : World) => R (SV.tuple []) w1))
                            (R (SV.tuple []) w1_1))) →
          J w1) →
      Br (decide ((↑data.2 : Int) > 0))
        (∀ (w1 : World),
          Upd [] [b] w w1 →
            Ret Tryd.prog 50 [SV.int IntKind.i64 (t 0), SV.int IntKind.i64 (↑data.2 : Int)] w1 fun (r : SV) (w1_1 : World) =>
              ∃ (n : Int),
                r = SV.int IntKind.i64 n ∧
                  Keeps [b] w1 w1_1 ∧
                    Upd [] [] w w1_1 ∧
                      Need (decide (0 ≤ n) && decide (n < (↑data.2 : Int)) && Option.isSome data.1)
                        (Store w1_1 (Sl.at data 1 (Int.toNat n)) (SV.cells (SV.int IntKind.u8 (wr IntKind.u8 (t 1)))) [b] fun (w1 : World) =>
                          some (SV.box b 91 (SV.arr IntKind.i64 2 t)) = some (SV.box b 91 (SV.arr IntKind.i64 2 t)) ∧ J w1))
        (∀ (w1 : World), Upd [] [b] w w1 → some (SV.box b 91 (SV.arr IntKind.i64 2 t)) = some (SV.box b 91 (SV.arr IntKind.i64 2 t)) ∧ J w1)
theorem f64_of (data : Sl) (l : Sl) (t : Nat → Int) (w : World) (R : SV → World → Prop) (hV : vc64 data l t w R) : Ret Tryd.prog 64 [.slice data, .slice l, .arr .i64 2 t] w R :=
  have e : vc64 data l t w R = fnVC X Tryd.f64 a64 [.slice data, .slice l, .arr .i64 2 t] w R := by kernel_rfl
  fnVC_sound X_ok (n := a64) (e ▸ hV) (by kernel_rfl) (by kernel_rfl) rfl rfl

end Go.Vc.S9
end

section
open Go Go.Vc Go.Vc.S9 Go.Proofs
set_option maxRecDepth 100000
set_option linter.unusedVariables false
namespace Go.Vc.S9
def vc61 (k : Option Addr) (b : Sl) (w : World) (R : SV → World → Prop) : Prop :=
  Vc.Append 5 1 1 { ptr := none, len := 0, cap := 0 } b [] w fun (r : Sl) (w : World) =>
    deref k fun (a : Addr) =>
      ∃ (s : Sl),
        World.cell? w a = some (Sl.val s) ∧
          ∀ (b_1 : Nat) (w1 : World),
            Upd [] [b_1] w w1 →
              (World.heap w1)[b_1]? = some (Obj.cells { toList := SV.cells (SV.struct [SV.slice b]) } 28) →
                Vc.Append 28 1 24 s { ptr := some { block := b_1, off := 0 }, len := 1, cap := 1 } [] w1 fun (r_1 : Sl) (w : World) =>
                  deref k fun (a : Addr) =>
                    Store w a (SV.cells (SV.slice r_1)) [] fun (w1 : World) =>
                      deref k fun (a : Addr) =>
                        ∃ (s : Sl),
                          World.cell? w1 (Addr.add a 1) = some (Sl.val s) ∧
                            ∀ (b : Nat) (w1_1 : World),
                              Upd [] [b] w1 w1_1 →
                                (World.heap w1_1)[b]? = some (Obj.cells { toList := SV.cells (SV.struct [SV.slice r]) } 28) →
                                  Vc.Append 28 1 24 s { ptr := some { block := b, off := 0 }, len := 1, cap := 1 } [] w1_1 fun (r : Sl) (w : World) =>
                                    deref k fun (a : Addr) => Store w (Addr.add a 1) (SV.cells (SV.slice r)) [] fun (w1 : World) => R (SV.tuple []) w1
theorem f61_of (k : Option Addr) (b : Sl) (w : World) (R : SV → World → Prop) (hV : vc61 k b w R) : Ret Tryd.prog 61 [.ptr k, .slice b] w R :=
  have e : vc61 k b w R = fnVC X Tryd.f61 a61 [.ptr k, .slice b] w R := by kernel_rfl
  fnVC_sound X_ok (n := a61) (e ▸ hV) (by kernel_rfl) (by kernel_rfl) rfl rfl

def vc63 (k : Option Addr) (w : World) (R : SV → World → Prop) : Prop :=
  ∃ (I : Int → World → Prop),
    ∃ (M : Int → World → Nat),
      I 0 w ∧
        ∀ (n : Int) (w1 : World),
          I n w1 →
            deref k fun (a : Addr) =>
              ∃ (s : Sl),
                World.cell? w1 a = some (Sl.val s) ∧
                  Br (decide (n < (↑s.2 : Int)))
                    (deref k fun (a : Addr) =>
                      ∃ (s : Sl),
                        World.cell? w1 a = some (Sl.val s) ∧
                          Need (decide (0 ≤ n) && decide (n < (↑s.2 : Int)) && Option.isSome s.1)
                            (∃ (s_1 : Sl),
                              World.cell? w1 (Sl.at s 1 (Int.toNat n)) = some (Sl.val s_1) ∧
                                deref k fun (a : Addr) =>
                                  ∃ (s : Sl),
                                    World.cell? w1 (Addr.add a 1) = some (Sl.val s) ∧
                                      Need (decide (0 ≤ n) && decide (n < (↑s.2 : Int)) && Option.isSome s.1)
                                        (∃ (s_2 : Sl),
                                          World.cell? w1 (Sl.at s 1 (Int.toNat n)) = some (Sl.val s_2) ∧
                                            ∀ (w1_1 : World),
                                              Upd [] [] w1 w1_1 →
                                                Ret Tryd.prog 87 [SV.slice s_1, SV.slice s_2] w1_1 fun (r : SV) (w1_2 : World) =>
                                                  ∃ (b : Bool),
                                                    r = SV.bool b ∧ Br (!b) (R (SV.bool false) w1_2) (I (wr IntKind.i64 (n + 1)) w1_2 ∧ M (wr IntKind.i64 (n + 1)) w1_2 < M n w1))))
                    (R (SV.bool true) w1)
theorem f63_of (k : Option Addr) (w : World) (R : SV → World → Prop) (hV : vc63 k w R) : Ret Tryd.prog 63 [.ptr k] w R :=
  have e : vc63 k w R = fnVC X Tryd.f63 a63 [.ptr k] w R := by kernel_rfl
  fnVC_sound X_ok (n := a63) (e ▸ hV) (by kernel_rfl) (by kernel_rfl) rfl rfl

def vc65 (k : Option Addr) (w : World) (R : SV → World → Prop) : Prop :=
  Ret Tryd.prog 63 [SV.ptr k] w fun (r : SV) (w1 : World) =>
    ∃ (b : Bool),
      r = SV.bool b ∧
        Br (!b) (R (SV.bool false) w1)
          (∃ (I : Int → World → Prop),
            ∃ (M : Int → World → Nat),
              I 0 w1 ∧
                ∀ (n : Int) (w1 : World),
                  I n w1 →
                    deref k fun (a : Addr) =>
                      ∃ (s : Sl),
                        World.cell? w1 a = some (Sl.val s) ∧
                          Br (decide (n < (↑s.2 : Int)))
                            (∃ (I_1 : Int → World → Prop),
                              ∃ (M_1 : Int → World → Nat),
                                I_1 0 w1 ∧
                                  ∀ (n_1 : Int) (w1_1 : World),
                                    I_1 n_1 w1_1 →
                                      deref k fun (a : Addr) =>
                                        ∃ (s : Sl),
                                          World.cell? w1_1 a = some (Sl.val s) ∧
                                            Need (decide (0 ≤ n) && decide (n < (↑s.2 : Int)) && Option.isSome s.1)
                                              (∃ (s_1 : Sl),
                                                World.cell? w1_1 (Sl.at s 1 (Int.toNat n)) = some (Sl.val s_1) ∧
                                                  Br (decide (n_1 < (↑s_1.2 : Int)))
                                                    (deref k fun (a : Addr) =>
                                                      ∃ (s : Sl),
                                                        World.cell? w1_1 a = some (Sl.val s) ∧
                                                          Need (decide (0 ≤ n) && decide (n < (↑s.2 : Int)) && Option.isSome s.1)
                                                            (∃ (s_2 : Sl),
                                                              World.cell? w1_1 (Sl.at s 1 (Int.toNat n)) = some (Sl.val s_2) ∧
                                                                Need (decide (0 ≤ n_1) && decide (n_1 < (↑s_2.2 : Int)) && Option.isSome s_2.1)
                                                                  (Store w1_1 (Sl.at s_2 1 (Int.toNat n_1))
                                                                    (SV.cells (SV.int IntKind.u8 (wr IntKind.u8 (wr IntKind.i64 (1 + Int.tmod n 251))))) [] fun (w1 : World) =>
                                                                    I_1 (wr IntKind.i64 (n_1 + 1)) w1 ∧ M_1 (wr IntKind.i64 (n_1 + 1)) w1 < M_1 n_1 w1_1)))
                                                    (I (wr IntKind.i64 (n + 1)) w1_1 ∧ M (wr IntKind.i64 (n + 1)) w1_1 < M n w1)))
                            (∃ (I : Sl → Int → World → Prop),
                              ∃ (M : Sl → Int → World → Nat),
                                I { ptr := none, len := 0, cap := 0 } 0 w1 ∧
                                  ∀ (s : Sl) (n : Int) (w1 : World),
                                    I s n w1 →
                                      deref k fun (a : Addr) =>
                                        ∃ (s_1 : Sl),
                                          World.cell? w1 a = some (Sl.val s_1) ∧
                                            Br (decide (n < (↑s_1.2 : Int)))
                                              (deref k fun (a : Addr) =>
                                                ∃ (s_2 : Sl),
                                                  World.cell? w1 a = some (Sl.val s_2) ∧
                                                    Need (decide (0 ≤ n) && decide (n < (↑s_2.2 : Int)) && Option.isSome s_2.1)
                                                      (∃ (s_3 : Sl),
                                                        World.cell? w1 (Sl.at s_2 1 (Int.toNat n)) = some (Sl.val s_3) ∧
                                                          ∃ (I_1 : Sl → World → Prop),
                                                            ∃ (M_1 : Sl → World → Nat),
                                                              I_1 s_3 w1 ∧
                                                                ∀ (s_4 : Sl) (w1_1 : World),
                                                                  I_1 s_4 w1_1 →
                                                                    Br (decide ((↑s_4.2 : Int) < wr IntKind.i64 (wr IntKind.i64 (2 * (↑s_3.2 : Int)) + 70)))
                                                                      (∀ (b : Nat) (w1 : World),
                                                                        Upd [] [b] w1_1 w1 →
                                                                          (World.heap w1)[b]? =
                                                                              some
                                                                                (Obj.cells
                                                                                  {
                                                                                    toList :=
                                                                                      SV.cells (SV.struct [SV.int IntKind.u8 (wr IntKind.u8 (wr IntKind.i64 (1 + Int.tmod n 251)))]) }
                                                                                  5) →
                                                                            Vc.Append 5 1 1 s_4 { ptr := some { block := b, off := 0 }, len := 1, cap := 1 } [] w1
                                                                              fun (r : Sl) (w : World) => I_1 r w ∧ M_1 r w < M_1 s_4 w1_1)
                                                                      (∀ (b : Nat) (w1_2 : World),
                                                                        Upd [] [b] w1_1 w1_2 →
                                                                          (World.heap w1_2)[b]? = some (Obj.cells { toList := SV.cells (SV.struct [SV.slice s_4]) } 28) →
                                                                            Vc.Append 28 1 24 s { ptr := some { block := b, off := 0 }, len := 1, cap := 1 } [] w1_2
                                                                              fun (r : Sl) (w : World) =>
                                                                              I r (wr IntKind.i64 (n + 1)) w ∧ M r (wr IntKind.i64 (n + 1)) w < M s n w1)))
                                              (∃ (I : Int → World → Prop),
                                                ∃ (M : Int → World → Nat),
                                                  I 0 w1 ∧
                                                    ∀ (n : Int) (w1 : World),
                                                      I n w1 →
                                                        deref k fun (a : Addr) =>
                                                          ∃ (s_2 : Sl),
                                                            World.cell? w1 a = some (Sl.val s_2) ∧
                                                              Br (decide (n < (↑s_2.2 : Int)))
                                                                (∀ (J : World → Prop),
                                                                  (∀ (w1_1 : World), I (wr IntKind.i64 (n + 1)) w1_1 ∧ M (wr IntKind.i64 (n + 1)) w1_1 < M n w1 → J w1_1) →
                                                                    deref k fun (a : Addr) =>
                                                                      ∃ (s_3 : Sl),
                                                                        World.cell? w1 a = some (Sl.val s_3) ∧
                                                                          Need (decide (0 ≤ n) && decide (n < (↑s_3.2 : Int)) && Option.isSome s_3.1)
                                                                            (∃ (s_4 : Sl),
                                                                              World.cell? w1 (Sl.at s_3 1 (Int.toNat n)) = some (Sl.val s_4) ∧
                                                                                Ret Tryd.prog 94
                                                                                  [SV.slice s_4, SV.int IntKind.u8 (wr IntKind.u8 (wr IntKind.i64 (1 + Int.tmod n 251)))] w1
                                                                                  fun (r : SV) (w1 : World) =>
                                                                                  ∃ (b : Bool),
                                                                                    r = SV.bool b ∧
                                                                                      Br (!b) (R (SV.bool false) w1)
                                                                                        (Need (decide (0 ≤ n) && decide (n < (↑s.2 : Int)) && Option.isSome s.1)
                                                                                          (∃ (s_5 : Sl),
                                                                                            World.cell? w1 (Sl.at s 1 (Int.toNat n)) = some (Sl.val s_5) ∧
                                                                                              Ret Tryd.prog 94
                                                                                                [SV.slice s_5,
                                                                                                  SV.int IntKind.u8 (wr IntKind.u8 (wr IntKind.i64 (1 + Int.tmod n 251)))]
                                                                                                w1 fun (r : SV) (w1 : World) =>
                                                                                                ∃ (b : Bool), r = SV.bool b ∧ Br (!b) (R (SV.bool false) w1) (J w1)))))
                                                                (R (SV.bool true) w1))))
theorem f65_of (k : Option Addr) (w : World) (R : SV → World → Prop) (hV : vc65 k w R) : Ret Tryd.prog 65 [.ptr k] w R :=
  have e : vc65 k w R = fnVC X Tryd.f65 a65 [.ptr k] w R := by kernel_rfl
  fnVC_sound X_ok (n := a65) (e ▸ hV) (by kernel_rfl) (by kernel_rfl) rfl rfl

def vc94 (b : Sl) (m : Int) (w : World) (R : SV → World → Prop) : Prop :=
  ∃ (I : Int → World → Prop),
    ∃ (M : Int → World → Nat),
      I 0 w ∧
        ∀ (n : Int) (w1 : World),
          I n w1 →
            Br (decide (n < (↑b.2 : Int)))
              (Need (decide (0 ≤ n) && decide (n < (↑b.2 : Int)) && Option.isSome b.1)
                (∃ (n_1 : Int),
                  World.cell? w1 (Sl.at b 1 (Int.toNat n)) = some (Value.int IntKind.u8 n_1) ∧
                    Br (n_1 != m) (R (SV.bool false) w1) (I (wr IntKind.i64 (n + 1)) w1 ∧ M (wr IntKind.i64 (n + 1)) w1 < M n w1)))
              (R (SV.bool true) w1)
theorem f94_of (b : Sl) (m : Int) (w : World) (R : SV → World → Prop) (hV : vc94 b m w R) : Ret Tryd.prog 94 [.slice b, .int .u8 m] w R :=
  have e : vc94 b m w R = fnVC X Tryd.f94 a94 [.slice b, .int .u8 m] w R := by kernel_rfl
  fnVC_sound X_ok (n := a94) (e ▸ hV) (by kernel_rfl) (by kernel_rfl) rfl rfl

end Go.Vc.S9
end
