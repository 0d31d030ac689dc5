import Derived.Test.YtopobapmncbjhaaVcN
namespace Go.Vc
open Go.RowKit (Below)
set_option linter.unusedSimpArgs false
set_option linter.unusedVariables false
set_option autoImplicit false

section
variable {X : Tab} (ok : TabOK X) {N : Nat} {s : St} {w : World} {a : Act} {wa : World} {o : Oper} {K : St → World → Prop} {Q : Exit → Act → World → Prop}

theorem OpPost.weaken {s s' : St} (h1 : s'.nb = s.nb) (h2 : escapes s o = false → s' = s) {a' : Act} {w' : World} (h : OpPost X N K s' o a a' w') : OpPost X N K s o a a' w' := by
  obtain ⟨s2, w2, g1, g2, g3, g4, g5⟩ := h
  exact ⟨s2, w2, g1, g2, by rw [← h1]; exact g3, fun hs he i hi => by have := h2 he; subst this; exact g4 hs he i hi, g5⟩

include ok in
theorem esc_pure_wp {xs : List SV} (hr : Rel X N s w a wa) (hd : ∀ t, o.dst = some t → t < N) (hnl : isLoad o = false) (he : escapes s o = false → lptrs xs = [])
    (h : s.esc w xs fun s w => pureVC X s o fun v => K (s.putD o.dst v) w) : o.wp X.P a wa (OpPost X N K s o a) Q := by
  obtain ⟨s', w', h1, h2, h3, h4, h5⟩ := esc_sound h hr
  exact Oper.wp_mono (fun a' w' hp => hp.weaken h3 (fun e => (h4 (he e)).1)) (pure_wp ok h2 hd hnl h1)

include ok in
theorem opVC_sound (h : opVC X s w o K) (hr : Rel X N s w a wa) (hd : ∀ t, o.dst = some t → t < N) : o.wp X.P a wa (OpPost X N K s o a) Q := by
  have pure : isLoad o = false → (pureVC X s o fun v => K (s.putD o.dst v) w) → o.wp X.P a wa (OpPost X N K s o a) Q := fun hl hp => pure_wp ok hr hd hl hp
  cases hop : o.op <;> simp only [opVC, hop] at h
  case alloc t => exact alloc_wp ok hop hr hd h
  case box t x =>
    obtain ⟨v, hv, h⟩ := ifSome_iff.1 h
    exact box_wp hop hr hd hv h
  case store t ad x =>
    split at h
    · cases h
    · rename_i hdst
      obtain ⟨v, hv, h⟩ := ifSome_iff.1 h
      exact store_wp ok hop hr hd hv h hdst
  case load t x => exact load_wp ok hop hr hd h
  case buildSlice t n parts =>
    split at h
    · rename_i e l ht hl
      split at h
      · cases h
      · rename_i hc
        simp only [Bool.and_eq_true] at hc
        exact buildSlice_wp ok hop ht hl hr hd h (Nat.le_of_ble_eq_true hc.2) hc.1
    · cases h
  case slice t x lo hi mx =>
    split at h
    · rename_i id off p hx
      refine esc_pure_wp ok hr hd (by simp [isLoad, hop]) (fun he => ?_) h
      simp [escapes, hop, hx, plain] at he
    · exact pure (by simp [isLoad, hop]) h
  case makeFunc fn first cap =>
    split at h
    · rename_i l hl
      refine esc_pure_wp ok hr hd (by simp [isLoad, hop]) (fun he => ?_) h
      simp [escapes, hop, hl] at he
      exact plain_lptrs he
    · cases h
  case makeSlice t n c =>
    split at h
    · rename_i e l m ht hn hc
      split at h
      · cases h
      · rename_i hf
        exact makeSlice_wp ok hop ht hn hc hf hr hd h
    · cases h
  case convert src dst x =>
    split at h
    · rename_i e q hs hdt hx
      split at h
      · rename_i he
        exact bytes_wp ok hop hs hdt he hx hr hd h
      · cases h
    · rename_i e1 e q hs hdt hx
      split at h
      · rename_i he hsd
        obtain rfl := nbeq.1 hsd
        exact mark_wp ok hop hdt he hx hr hd h
      · cases h
    · exact pure (by simp [isLoad, hop]) h
  case call c =>
    split at h
    · rename_i f hcal
      split at h
      · rename_i l hl
        obtain ⟨s', w', h1, h2, h3, h4, h5⟩ := esc_sound h hr
        split at h1
        · rename_i fid cs l' hf' hl'
          split at h1
          · rename_i hp
            simp only [Bool.and_eq_true] at hp
            have hesc : escapes s o = false → s'.bx = s.bx := by
              intro he
              simp [escapes, hop, hl] at he
              rw [(h4 (plain_lptrs he)).1]
            exact call_wp ok hop hcal h2 hd hf' hp.1 hl' hp.2 h3.symm hesc h1
          · cases h1
        · cases h1
      · cases h
    · rename_i hcal
      split at h
      · rename_i t u x y hat hag
        split at h
        · rename_i e e2 p q ht hu hx hy
          split at h
          · cases h
          · rename_i hf
            exact append_sl_wp ok hop hcal hat hag ht hu hx hy hf hr hd h
        · rename_i e p n ht hu hx hy
          split at h
          · cases h
          · rename_i hf
            exact append_z_wp ok hop hcal hat hag ht hu hx hy hf hr hd h
        · cases h
      · cases h
    · rename_i hcal
      split at h
      · rename_i t u x y hat hag
        split at h
        · rename_i e e2 p q ht hu hx hy
          split at h
          · cases h
          · rename_i hf
            exact copy_wp ok hop hcal hat hag ht hu hx hy hf hr hd h
        · cases h
      · cases h
    · exact pure (by simp [isLoad, hop]) h
  all_goals exact pure (by simp [isLoad, hop]) h
end
end Go.Vc
