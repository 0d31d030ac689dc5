import Derived.Test.YtopobapmncbjhaaVcS
namespace Go.Vc
open Go.RowKit (Below)
set_option linter.unusedSimpArgs false
set_option linter.unusedVariables false
set_option autoImplicit false

theorem same_boxes {s1 s : St} : ∀ {bs : List Nat} {F : Prop}, sameBoxes s1 s bs F → (∀ i ∈ bs, s1.bx i = s.bx i) ∧ F
  | [], F, h => ⟨by simp, h⟩
  | i :: r, F, h => by
    simp only [sameBoxes] at h
    obtain ⟨h1, h2⟩ := same_boxes h.2
    refine ⟨fun j hj => ?_, h2⟩
    rcases List.mem_cons.1 hj with rfl | hj
    · exact h.1
    · exact h1 j hj
theorem same_nums {s1 s : St} : ∀ {ks : List (Key × Ty)} {F : Prop}, sameNums s1 s ks F → (∀ n t, (Key.b n, t) ∈ ks → boxBT (s1.bx n) = boxBT (s.bx n)) ∧ F
  | [], F, h => ⟨by simp, h⟩
  | (.t m, ty) :: r, F, h => by
    simp only [sameNums] at h
    obtain ⟨h1, h2⟩ := same_nums h
    refine ⟨fun n t hj => ?_, h2⟩
    rcases List.mem_cons.1 hj with hj | hj
    · cases hj
    · exact h1 n t hj
  | (.b m, ty) :: r, F, h => by
    simp only [sameNums] at h
    obtain ⟨h1, h2⟩ := same_nums h.2
    refine ⟨fun n t hj => ?_, h2⟩
    rcases List.mem_cons.1 hj with hj | hj
    · cases hj; exact h.1
    · exact h1 n t hj

theorem least {S : Nat → Prop} (h : ∃ n, S n) : ∃ n, S n ∧ ∀ m, S m → n ≤ m := by
  obtain ⟨n, hn⟩ := h
  induction n using Nat.strongRecOn with
  | _ n ih =>
    by_cases hm : ∃ m, m < n ∧ S m
    · obtain ⟨m, h1, h2⟩ := hm
      exact ih m h1 h2
    · exact ⟨n, hn, fun m hm' => Nat.le_of_not_lt fun hlt => hm ⟨m, hlt, hm'⟩⟩

section
variable {X : Tab} (ok : TabOK X) {N : Nat}

theorem Post.mono {k k' : St → World → Prop} {ex ex' : Nat → St → World → Prop} {ret ret' : St → World → Prop} {W W' : List Nat} {a0 a0' : Act}
    (hf : ∀ a, Fr W a0 a → Fr W' a0' a) {e : Exit} {a : Act} {w : World}
    (h : Post X N k ex ret W a0 e a w) (hk : ∀ s w, k s w → k' s w) (hex : ∀ i s w, ex i s w → ex' i s w) (hret : ∀ s w, ret s w → ret' s w) : Post X N k' ex' ret' W' a0' e a w := by
  cases e <;> simp only [Post] at h ⊢
  case normal => obtain ⟨⟨s, w, h1, h2⟩, h3⟩ := h; exact ⟨⟨s, w, hk _ _ h1, h2⟩, hf _ h3⟩
  case exit i => obtain ⟨⟨s, w, h1, h2⟩, h3⟩ := h; exact ⟨⟨s, w, hex _ _ _ h1, h2⟩, hf _ h3⟩
  case ret => obtain ⟨s, w, h1, h2⟩ := h; exact ⟨s, w, hret _ _ h1, h2⟩

/-- the parts behind a piece of code -/
theorem Post.then {b : Code} {k1 k : St → World → Prop} {ex : Nat → St → World → Prop} {ret : St → World → Prop} {W W' : List Nat} {a0 : Act}
    (hb : ∀ s w a wa, k1 s w → Rel X N s w a wa → Fr W a0 a → b.wp X.P (Post X N k ex ret W' a) a wa) :
    ∀ e a wa, Post X N k1 ex ret W a0 e a wa → Exit.then (b.wp X.P (Post X N k ex ret (W ++ W') a0)) (Post X N k ex ret (W ++ W') a0) e a wa := by
  intro e a wa h
  cases e <;> simp only [Post, Exit.then] at h ⊢
  case normal =>
    obtain ⟨⟨s, w, h1, h2⟩, h3⟩ := h
    exact wp_mono (hb s w a wa h1 h2 h3) (fun e a' w' hp => hp.mono (fun a'' hf => h3.trans hf) (fun _ _ h => h) (fun _ _ _ h => h) (fun _ _ h => h))
  case exit i => exact ⟨h.1, h.2.mono (by simp; intro t ht; exact .inl ht)⟩
  case ret => exact h

include ok in
theorem vc_sound : ∀ (c : Code) (n : Ann) (s : St) (w : World) (a : Act) (wa : World) (k : St → World → Prop) (ex : Nat → St → World → Prop) (ret : St → World → Prop),
    vc X c n s w k ex ret → Rel X N s w a wa → (∀ t ∈ codeW c, t < N) → c.wp X.P (Post X N k ex ret (codeW c) a) a wa := by
  intro c
  induction c with
  | skip =>
    intro n s w a wa k ex ret h hr hN
    simp only [vc] at h
    exact wp_skip ⟨⟨s, w, h, hr⟩, Fr.refl _ _⟩
  | region id ops draw =>
    intro n s w a wa k ex ret h hr hN
    simp only [codeW] at hN ⊢
    cases draw with
    | false =>
      simp only [vc] at h
      exact wp_region_list (opsVC_sound ok h hr hN (fun s' w' a' wa' h1 h2 h3 => ⟨⟨s', w', h1, h2⟩, h3⟩))
    | true =>
      have main : ∀ (K : Option (List Nat)) (t : Tree) (s' : St) (w' : World), Was0 K w' w' → okTree ops t = true → treeVC K X ops.toList w' s'.nb t { s' with dirty := true } w' k → Rel X N s' w' a wa → Upd [] [] w' wa → s'.mods = [] → (Code.region id ops true).wp X.P (Post X N k ex ret (opsW ops.toList) a) a wa := by
        intro K t s' w' hbase hok h1 h2 h3 h7
        simp only [okTree, Bool.and_eq_true] at hok
        refine wp_region_any ok.mixed (wpAny_of_C _ _ _ _ (tree_sound ok (K := K) (s0 := { s' with dirty := true }) (w0 := w') (a0 := a) (k := k) hok.1 hN
          (fun i b t c hb => (h2.bx i b t c hb).2.2) (fun _ _ _ h => h) (fun _ _ h => h) (fun s w a wa g1 g2 g3 => ⟨⟨s, w, g1, g2⟩, g3⟩) t _ _ _ w' a _ hok.2 h1 ?_))
        exact ⟨h2.drew, Fr.refl _ _, (fun i o _ hi => by
          rw [Array.getD_eq_getD_getElem?, Array.getElem?_replicate] at hi
          split at hi <;> simp at hi), Nat.le_refl _, hbase, fun _ => ⟨hbase.trans h3.drew, fun _ _ => rfl⟩⟩
      cases n <;> simp only [vc] at h <;> try (cases h; done)
      case draw t =>
        split at h
        · rename_i hok
          obtain ⟨s', w', h1, h2, h3, h4, h5, h6, h7⟩ := look_sound h hr
          exact main none t s' w' (Upd.refl _) hok h1 h2 h3 h7
        · cases h
      case drawF ids t =>
        split at h
        · rename_i hok
          have h1 := flush_sound h hr
          obtain ⟨s', h2, h3, h4, h5⟩ := escs_sound h1 (by exact hr.clean.clean) rfl
          refine main none t s' wa (Upd.refl _) hok h2 h3 (Upd.refl _) (by rw [← h4]; rfl)
        · cases h
      case drawK ids t =>
        split at h
        · rename_i hok
          have h1 := flush_sound h hr
          obtain ⟨s', h2, h3, h4, h5⟩ := escs_sound h1 (by exact hr.clean.clean) rfl
          obtain ⟨bs, h6, h2⟩ := h2
          refine main (some bs) t s' wa ⟨h6, fun _ _ => rfl⟩ hok h2 h3 (Upd.refl _) (by rw [← h4]; rfl)
        · cases h
  | seq x y ihx ihy =>
    intro n s w a wa k ex ret h hr hN
    simp only [codeW, List.mem_append] at hN ⊢
    cases n <;> simp only [vc] at h <;> try (cases h; done)
    case seq na nb =>
      refine wp_seq (wp_mono (ihx na s w a wa _ ex ret h hr (fun t ht => hN t (.inl ht))) (Post.then fun s1 w1 a1 wa1 g1 g2 _ => ihy nb s1 w1 a1 wa1 k ex ret g1 g2 (fun t ht => hN t (.inr ht))))
    case cut ks bs na nb =>
      have h := h (Ty.curs (tysOf ks) fun l w1 => vc X y nb ((s.forget (codeW x) ks bs).setAll ks l) w1 k ex ret) (by
        refine (alls_fits _ _).2 fun l hl w1 hv => ?_
        unfold appL
        rw [apps_curs _ _ l hl]
        exact hv)
      refine wp_seq (wp_mono (ihx na s w a wa _ ex ret h hr (fun t ht => hN t (.inl ht))) (Post.then fun s1 w1 a1 wa1 g1 g2 g3 => ?_))
      have g1 := flush_sound g1 g2
      obtain ⟨k1, g1⟩ := same_boxes g1
      obtain ⟨k2, g1⟩ := same_nums g1
      unfold appJ at g1
      split at g1
      · rename_i l hl
        split at g1
        · rename_i F hF
          have hfit := apps_fits _ _ _ _ hF
          rw [apps_curs _ _ l hfit] at hF
          obtain rfl := Option.some.inj hF
          exact ihy nb _ _ a1 wa1 k ex ret g1 (hr.forget g2.clean g3 k1 k2 hl hfit) (fun t ht => hN t (.inr ht))
        · cases g1
      · cases g1
  | cond c x y ihx ihy =>
    intro n s w a wa k ex ret h hr hN
    simp only [codeW, List.mem_append] at hN ⊢
    cases n <;> simp only [vc] at h <;> try (cases h; done)
    case cond na nb =>
      have mono1 : ∀ e a' w', Post X N k ex ret (codeW x) a e a' w' → Post X N k ex ret (codeW x ++ codeW y) a e a' w' := fun e a' w' hp => hp.mono (fun _ hf => hf.mono (by simp; intro t ht; exact .inl ht)) (fun _ _ h => h) (fun _ _ _ h => h) (fun _ _ h => h)
      have mono2 : ∀ e a' w', Post X N k ex ret (codeW y) a e a' w' → Post X N k ex ret (codeW x ++ codeW y) a e a' w' := fun e a' w' hp => hp.mono (fun _ hf => hf.mono (by simp; intro t ht; exact .inr ht)) (fun _ _ h => h) (fun _ _ _ h => h) (fun _ _ h => h)
      split at h
      · rename_i t
        split at h
        · rename_i v hv
          have hev : a.eval (.tmp t) = .bool v := by
            have := hr.ev (.tmp t) _ hv
            simpa only [RelV, SV.enc] using this
          refine wp_cond_split hev (fun e => ?_) (fun e => ?_)
          · subst e
            exact wp_mono (ihx na _ w a wa k ex ret h (hr.known hv) (fun t ht => hN t (.inl ht))) mono1
          · subst e
            exact wp_mono (ihy nb _ w a wa k ex ret h (hr.known hv) (fun t ht => hN t (.inr ht))) mono2
        · cases h
      · rename_i v
        refine wp_cond_split (t := v) rfl (fun e => ?_) (fun e => ?_)
        · subst e
          exact wp_mono (ihx na _ w a wa k ex ret h hr (fun t ht => hN t (.inl ht))) mono1
        · subst e
          exact wp_mono (ihy nb _ w a wa k ex ret h hr (fun t ht => hN t (.inr ht))) mono2
      · cases h
  | block id x ihx =>
    intro n s w a wa k ex ret h hr hN
    simp only [codeW] at hN ⊢
    cases n <;> simp only [vc] at h <;> try (cases h; done)
    rename_i nx
    refine wp_block (wp_mono (ihx nx s w a wa _ _ ret h hr hN) ?_)
    intro e a' w' hp
    cases e <;> simp only [Post, Exit.inBlock] at hp ⊢
    case normal => exact hp
    case ret => exact hp
    case exit i =>
      obtain ⟨⟨s1, w1, h1, h2⟩, h3⟩ := hp
      by_cases hid : i = id
      · rw [if_pos hid]
        rw [nbeq.2 hid] at h1
        exact ⟨⟨s1, w1, h1, h2⟩, h3⟩
      · rw [if_neg hid]
        rw [nbeq_false.2 hid] at h1
        exact ⟨⟨s1, w1, h1, h2⟩, h3⟩
  | loop x ihx =>
    intro n s w a wa k ex ret h hr hN
    simp only [codeW] at hN ⊢
    have main : ∀ (ks : List (Key × Ty)) (bs : List Nat) (nx : Ann) (s : St) (w : World), loopVC ks bs (codeW x) (fun s w kk => vc X x nx s w kk ex ret) s w → Rel X N s w a wa → (Code.loop x).wp X.P (Post X N k ex ret (codeW x) a) a wa := by
      intro ks bs nx s w h hr
      obtain ⟨I, M, h0, hrd⟩ := h
      have h0 := flush_sound h0 hr
      -- what holds at the head
      let InvL : List SV → Act → World → Prop := fun l a' wa' => fitsL (tysOf ks) l ∧ appL ks I l wa' ∧ Rel X N ((s.forget (codeW x) ks bs).setAll ks l) wa' a' wa'
      let S : Act → World → Nat → Prop := fun a' wa' n => ∃ l, InvL l a' wa' ∧ meas ks M l wa' = n
      let Inv : Act → World → Prop := fun a' wa' => (∃ n, S a' wa' n) ∧ Fr (codeW x) a a'
      have μ : ∃ μ : Act → World → Nat, ∀ a' wa', (∃ n, S a' wa' n) → S a' wa' (μ a' wa') ∧ ∀ m, S a' wa' m → μ a' wa' ≤ m := by
        refine ⟨fun a' wa' => open Classical in if h : ∃ n, S a' wa' n then Classical.choose (least h) else 0, fun a' wa' h => ?_⟩
        simp only [dif_pos h]
        exact Classical.choose_spec (least h)
      obtain ⟨μ, hμ⟩ := μ
      have enter : ∀ {s1 : St} {w1 : World} {a1 : Act} {wa1 : World}, appJ ks I s1 wa1 → Rel X N s1 wa1 a1 wa1 → Fr (codeW x) a a1 → (∀ i ∈ bs, s1.bx i = s.bx i) → (∀ n t, (Key.b n, t) ∈ ks → boxBT (s1.bx n) = boxBT (s.bx n)) →
          ∃ l, s1.get ks = some l ∧ InvL l a1 wa1 := by
        intro s1 w1 a1 wa1 g1 g2 g3 k1 k2
        unfold appJ at g1
        split at g1
        · rename_i l hl
          split at g1
          · rename_i F hF
            have hfit := apps_fits _ _ _ _ hF
            exact ⟨l, hl, hfit, by unfold appL; rw [hF]; exact g1, hr.forget g2 g3 k1 k2 hl hfit⟩
          · cases g1
        · cases g1
      refine wp_loop Inv μ ?_ ?_
      · obtain ⟨l, _, hl⟩ := enter (w1 := w) h0 hr.clean (Fr.refl _ _) (fun _ _ => rfl) (fun _ _ _ => rfl)
        exact ⟨⟨_, l, hl, rfl⟩, Fr.refl _ _⟩
      · rintro a1 wa1 ⟨hS, hfr⟩
        obtain ⟨⟨l, ⟨hfit, hI, hrel⟩, hm⟩, _⟩ := hμ a1 wa1 hS
        have hv := (alls_fits _ _).1 hrd l hfit wa1 hI
        refine wp_mono (ihx nx _ wa1 a1 wa1 _ ex ret hv hrel hN) ?_
        intro e a2 wa2 hp
        cases e <;> simp only [Post, Exit.then] at hp ⊢
        case normal =>
          obtain ⟨⟨s2, w2, g1, g2⟩, g3⟩ := hp
          have g1 := flush_sound g1 g2
          obtain ⟨k1, g1⟩ := same_boxes g1
          obtain ⟨k2, g1⟩ := same_nums g1
          have hfr2 : Fr (codeW x) a a2 := (hfr.trans g3).mono (by simp)
          obtain ⟨l2, hl2, hinv⟩ := enter (w1 := w2) g1.1 g2.clean hfr2 k1 k2
          refine ⟨⟨⟨_, l2, hinv, rfl⟩, hfr2⟩, ?_⟩
          have hle := (hμ a2 wa2 ⟨_, l2, hinv, rfl⟩).2 _ ⟨l2, hinv, rfl⟩
          have hlt : meas ks M l2 wa2 < meas ks M l wa1 := by
            have hM := g1.2
            unfold appM at hM
            rw [hl2] at hM
            simp only at hM
            split at hM
            · rename_i F hF
              unfold meas
              rw [hF]
              exact hM
            · cases hM
          rw [hm] at hlt
          exact Nat.lt_of_le_of_lt hle hlt
        case exit i => exact ⟨hp.1, (hfr.trans hp.2).mono (by simp)⟩
        case ret => exact hp
    cases n <;> simp only [vc] at h <;> try (cases h; done)
    case loop ks bs nx => exact main ks bs nx s w h hr
    case loopF ids ks bs nx =>
      have h1 := flush_sound h hr
      obtain ⟨s', h2, h3, _, _⟩ := escs_sound h1 (by exact hr.clean.clean) rfl
      exact main ks bs nx s' wa h2 h3
  | scope x ihx =>
    intro n s w a wa k ex ret h hr hN
    simp only [codeW] at hN ⊢
    simp only [vc] at h
    refine wp_scope_straight (wp_mono (ihx n s w a wa k ex ret h hr hN) ?_)
    intro e a' w' hp
    cases e <;> first | exact hp | exact hp.elim
  | label l =>
    intro n s w a wa k ex ret h hr hN
    simp only [vc] at h
    exact wp_label ⟨⟨s, w, h, hr⟩, Fr.refl _ _⟩
  | exit id =>
    intro n s w a wa k ex ret h hr hN
    simp only [vc] at h
    exact wp_exit ⟨⟨s, w, h, hr⟩, Fr.refl _ _⟩
  | ret =>
    intro n s w a wa k ex ret h hr hN
    simp only [vc] at h
    exact wp_ret ⟨s, w, h, hr⟩
  | _ => intro n s w a wa k ex ret h; simp only [vc] at h
end
end Go.Vc
