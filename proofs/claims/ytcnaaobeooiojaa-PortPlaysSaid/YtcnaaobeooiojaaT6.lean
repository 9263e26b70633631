import Derived.Test.YtcnaaobeooiojaaT5
namespace Go.Proofs.Ytcnaaobeooiojaa
set_option linter.unusedSimpArgs false
set_option linter.unusedVariables false
open Go.RX
/-! ### What always holds is kept -/
section
variable {room : Int} {ps : List PT}
/-- One that is none of two bound ones is changed. -/
theorem okT.putA (hT : okT room ps) {g i : Int} (h : inR room g i = true) (h2 : (gp ps g i).1 ≠ 2) {y : PT} (hy : y = zP ∨ (y.1 = 1 ∧ (1 ≤ y.2.1 ∧ y.2.1 ≤ 16) ∧ y.2.1 ≠ g ∧ y.2.2.1 = 0)) : okT room (ps.set (ix g i) y) where
  tookS := hT.tookS.set _ _
  inv g' i' h' := by
    by_cases e : g' = g ∧ i' = i
    · have e1 : gp (ps.set (ix g i) y) g' i' = y := (gp_set hT.tookS h h' y).trans (if_pos e)
      rw [e1, e.1]
      rcases hy with hy | hy
      · exact .inl hy
      · exact .inr (.inl hy)
    · have e1 : gp (ps.set (ix g i) y) g' i' = gp ps g' i' := (gp_set hT.tookS h h' y).trans (if_neg e)
      rw [e1]
      rcases hT.inv g' i' h' with z | z | ⟨b1, b2, b3, b4, b5, b6⟩
      · exact .inl z
      · exact .inr (.inl z)
      · have hne : ¬ ((gp ps g' i').2.1 = g ∧ (gp ps g' i').2.2.1 = i) := fun c => by rw [c.1, c.2] at b4; exact h2 b4
        have e2 : gp (ps.set (ix g i) y) (gp ps g' i').2.1 (gp ps g' i').2.2.1 = gp ps (gp ps g' i').2.1 (gp ps g' i').2.2.1 := (gp_set hT.tookS h b3 y).trans (if_neg hne)
        rw [e2]
        exact .inr (.inr ⟨b1, b2, b3, b4, b5, b6⟩)
/-- Only what is pending, or masked, is changed. -/
theorem okT.putB (hT : okT room ps) {g i : Int} (h : inR room g i = true) (hz : gp ps g i ≠ zP) {y : PT} (h1 : y.1 = (gp ps g i).1) (h2 : y.2.1 = (gp ps g i).2.1) (h3 : y.2.2.1 = (gp ps g i).2.2.1) : okT room (ps.set (ix g i) y) where
  tookS := hT.tookS.set _ _
  inv g' i' h' := by
    have key : ∀ a b, inR room a b = true → (gp (ps.set (ix g i) y) a b).1 = (gp ps a b).1 ∧ (gp (ps.set (ix g i) y) a b).2.1 = (gp ps a b).2.1 ∧ (gp (ps.set (ix g i) y) a b).2.2.1 = (gp ps a b).2.2.1 := fun a b hab => by
      by_cases e : a = g ∧ b = i
      · rw [(gp_set hT.tookS h hab y).trans (if_pos e), e.1, e.2]; exact ⟨h1, h2, h3⟩
      · rw [(gp_set hT.tookS h hab y).trans (if_neg e)]; exact ⟨rfl, rfl, rfl⟩
    obtain ⟨k1, k2, k3⟩ := key g' i' h'
    rw [k1, k2, k3]
    rcases hT.inv g' i' h' with z | z | ⟨b1, b2, b3, b4, b5, b6⟩
    · refine .inl ?_
      by_cases e : g' = g ∧ i' = i
      · rw [e.1, e.2] at z; exact absurd z hz
      · rw [(gp_set hT.tookS h h' y).trans (if_neg e)]; exact z
    · exact .inr (.inl z)
    · obtain ⟨m1, m2, m3⟩ := key _ _ b3
      rw [m1, m2, m3]
      exact .inr (.inr ⟨b1, b2, b3, b4, b5, b6⟩)
theorem okT.layS (hT : okT room ps) {g : Int} (hg : gI g = true) {y : PT} (hy : y.1 = 1 ∧ (1 ≤ y.2.1 ∧ y.2.1 ≤ 16) ∧ y.2.1 ≠ g ∧ y.2.2.1 = 0) : okT room (layS room ps g y).2 := by
  unfold Go.Proofs.Ytcnaaobeooiojaa.layS
  split
  · exact hT
  · rename_i hp
    obtain ⟨h1, h2⟩ := place_in hg hp
    rw [atX_eq h1] at h2
    have hz : gp ps g (placeI room ps g) = zP := by
      by_cases e : gp ps g (placeI room ps g) = zP
      · exact e
      · rw [if_neg e] at h2; cases h2
    exact hT.putA h1 (by rw [hz]; decide) (.inr hy)
theorem okT.openS (hT : okT room ps) (g r : Int) : okT room (openS room ps g r).2 := by
  unfold Go.Proofs.Ytcnaaobeooiojaa.openS
  split
  · rename_i e
    obtain ⟨h1, h2, h3⟩ := two_iff.1 e
    exact hT.layS h1 ⟨rfl, gI_iff.1 h2, fun e => h3 e.symm, rfl⟩
  · exact hT
theorem okT.bindS (hT : okT room ps) (g r i : Int) : okT room (bindS room ps g r i).2 := by
  unfold Go.Proofs.Ytcnaaobeooiojaa.bindS
  split
  · rename_i e
    obtain ⟨h1, h2, h3⟩ := two_iff.1 e
    split
    · exact hT
    · rename_i k hx
      split
      · exact hT
      · split
        · exact hT
        · split
          · exact hT
          · rename_i n2 n3 hp
            obtain ⟨q1, q2⟩ := place_in h1 hp
            rw [atX_eq q1] at q2
            have hz : gp ps g (placeI room ps g) = zP := by
              by_cases e : gp ps g (placeI room ps g) = zP
              · exact e
              · rw [if_neg e] at q2; cases q2
            obtain ⟨p1, p2, p3⟩ := atX_some hx
            subst p2
            have e0 : ps.getD (ix r i) zP = gp ps r i := rfl
            rw [e0] at n2 n3 p3 ⊢
            have n3 : (gp ps r i).2.1 = g := Classical.byContradiction n3
            generalize placeI room ps g = j at q1 hz
            have hs := hT.tookS
            have key : ∀ a b, inR room a b = true → gp ((ps.set (ix g j) (2, r, i, false, false, ())).set (ix r i) (2, (gp ps r i).2.1, j, (gp ps r i).2.2.2)) a b = if a = r ∧ b = i then (2, (gp ps r i).2.1, j, (gp ps r i).2.2.2) else if a = g ∧ b = j then (2, r, i, false, false, ()) else gp ps a b := fun a b hab => by
              rw [gp_set (hs.set _ _) p1 hab, gp_set hs q1 hab]
            show okT room ((ps.set (ix g j) (2, r, i, false, false, ())).set (ix r i) (2, (gp ps r i).2.1, j, (gp ps r i).2.2.2))
            have hsX := (hs.set (ix g j) (2, r, i, false, false, ())).set (ix r i) (2, (gp ps r i).2.1, j, (gp ps r i).2.2.2)
            generalize (ps.set (ix g j) (2, r, i, false, false, ())).set (ix r i) (2, (gp ps r i).2.1, j, (gp ps r i).2.2.2) = X at key hsX ⊢
            refine ⟨hsX, fun g' i' h' => ?_⟩
            rw [key g' i' h']
            by_cases e1 : g' = r ∧ i' = i
            · rw [if_pos e1]
              obtain ⟨rfl, rfl⟩ := e1
              refine .inr (.inr ⟨rfl, by rw [n3]; exact h3, by rw [n3]; exact q1, ?_⟩)
              show (gp _ (gp ps g' i').2.1 j).1 = 2 ∧ (gp _ (gp ps g' i').2.1 j).2.1 = g' ∧ (gp _ (gp ps g' i').2.1 j).2.2.1 = i'
              rw [n3, key g j q1, if_neg (fun c => h3 c.1), if_pos ⟨rfl, rfl⟩]
              exact ⟨rfl, rfl, rfl⟩
            · rw [if_neg e1]
              by_cases e2 : g' = g ∧ i' = j
              · rw [if_pos e2]
                obtain ⟨rfl, rfl⟩ := e2
                refine .inr (.inr ⟨rfl, fun c => h3 c.symm, p1, ?_⟩)
                show (gp _ r i).1 = 2 ∧ (gp _ r i).2.1 = g' ∧ (gp _ r i).2.2.1 = i'
                rw [key r i p1, if_pos ⟨rfl, rfl⟩]
                exact ⟨rfl, n3, rfl⟩
              · rw [if_neg e2]
                rcases hT.inv g' i' h' with z | z | ⟨b1, b2, b3, b4, b5, b6⟩
                · exact .inl z
                · exact .inr (.inl z)
                · rw [key _ _ b3, if_neg, if_neg]
                  · exact .inr (.inr ⟨b1, b2, b3, b4, b5, b6⟩)
                  · intro c; rw [c.1, c.2, hz] at b4; exact absurd b4 (by decide)
                  · intro c; rw [c.1, c.2] at b4; exact n2 b4
  · exact hT
theorem okT.sendS (hT : okT room ps) (g i : Int) : okT room (sendS room ps g i).2 := by
  cases hx : atX room ps g i with
  | none => rw [sendS_none hx]; exact hT
  | some k =>
    rw [sendS_some hx]
    split
    · rename_i h2
      obtain ⟨_, q2, q3⟩ := hT.nz hx h2
      obtain ⟨_, _, hz⟩ := atX_some q3
      exact hT.putB q2 hz rfl rfl rfl
    · exact hT
theorem okT.maskS (hT : okT room ps) (g i : Int) (b : Bool) : okT room (maskS room ps g i b).2 := by
  cases hx : atX room ps g i with
  | none => rw [maskS_none hx]; exact hT
  | some k =>
    rw [maskS_some hx]
    obtain ⟨q1, q2, hz⟩ := atX_some hx
    subst q2
    exact hT.putB q1 hz rfl rfl rfl
theorem pend_mem {g x : Int} (h : x ∈ pendL room ps g) : inR room g x = true ∧ (gp ps g x).2.2.2.1 = true ∧ (gp ps g x).2.2.2.2.1 = false := by
  unfold pendL at h
  rw [List.mem_map] at h
  obtain ⟨j, hj, rfl⟩ := h
  rw [List.mem_filter] at hj
  have := List.mem_range.1 hj.1
  have h2 := hj.2
  unfold pendB at h2
  simp only [Bool.and_eq_true, Bool.not_eq_true'] at h2
  exact ⟨inR_iff.2 ⟨gI_iff.1 h2.1, by omega, by omega⟩, h2.2.1, h2.2.2⟩
theorem pend_nz {g x : Int} (h : x ∈ pendL room ps g) : gp ps g x ≠ zP := fun e => by
  have := (pend_mem h).2.1
  rw [e] at this
  cases this
theorem okT.takeS (hT : okT room ps) (g : Int) : okT room (takeS room ps g).2 := by
  unfold Go.Proofs.Ytcnaaobeooiojaa.takeS
  cases hp : pendL room ps g with
  | nil => exact hT
  | cons x l =>
    have hm : x ∈ pendL room ps g := by rw [hp]; exact List.mem_cons_self
    exact hT.putB (pend_mem hm).1 (pend_nz hm) rfl rfl rfl
theorem okT.closeS (hT : okT room ps) (g i : Int) : okT room (closeS room ps g i).2 := by
  cases hx : atX room ps g i with
  | none => rw [closeS_none hx]; exact hT
  | some k =>
    rw [closeS_some hx]
    obtain ⟨p1, p2, p3⟩ := atX_some hx
    have hs := hT.tookS
    split
    · rename_i h2
      obtain ⟨r1, r2, _⟩ := hT.nz hx h2
      subst p2
      have e0 : ps.getD (ix g i) zP = gp ps g i := rfl
      rw [e0] at h2 r1 r2 p3 ⊢
      have hi := hT.inv g i p1
      rcases hi with z | z | ⟨_, _, _, c4, c5, c6⟩
      · exact absurd z p3
      · rw [z.1] at h2; exact absurd h2 (by decide)
      obtain ⟨r, hr⟩ : ∃ r, r = (gp ps g i).2.1 := ⟨_, rfl⟩
      obtain ⟨j, hj⟩ : ∃ j, j = (gp ps g i).2.2.1 := ⟨_, rfl⟩
      rw [← hr] at r1 c4 c5 c6 r2 ⊢
      rw [← hj] at c4 c5 c6 r2 ⊢
      have key : ∀ a b, inR room a b = true → gp ((ps.set (ix r j) (1, (gp ps r j).2.1, 0, (gp ps r j).2.2.2)).set (ix g i) zP) a b = if a = g ∧ b = i then zP else if a = r ∧ b = j then (1, (gp ps r j).2.1, 0, (gp ps r j).2.2.2) else gp ps a b := fun a b hab => by
        rw [gp_set (hs.set _ _) p1 hab, gp_set hs r2 hab]
      show okT room ((ps.set (ix r j) (1, (gp ps r j).2.1, 0, (gp ps r j).2.2.2)).set (ix g i) zP)
      have hsX := (hs.set (ix r j) (1, (gp ps r j).2.1, 0, (gp ps r j).2.2.2)).set (ix g i) zP
      generalize (ps.set (ix r j) (1, (gp ps r j).2.1, 0, (gp ps r j).2.2.2)).set (ix g i) zP = X at key hsX ⊢
      refine ⟨hsX, fun g' i' h' => ?_⟩
      rw [key g' i' h']
      by_cases e1 : g' = g ∧ i' = i
      · rw [if_pos e1]; exact .inl rfl
      · rw [if_neg e1]
        by_cases e2 : g' = r ∧ i' = j
        · rw [if_pos e2]
          refine .inr (.inl ⟨rfl, ?_, ?_, rfl⟩)
          · show 1 ≤ (gp ps r j).2.1 ∧ (gp ps r j).2.1 ≤ 16
            rw [c5]; exact (inR_iff.1 p1).1
          · show (gp ps r j).2.1 ≠ g'
            rw [c5, e2.1]; exact fun c => r1 c.symm
        · rw [if_neg e2]
          rcases hT.inv g' i' h' with z | z | ⟨b1, b2, b3, b4, b5, b6⟩
          · exact .inl z
          · exact .inr (.inl z)
          · rw [key _ _ b3, if_neg, if_neg]
            · exact .inr (.inr ⟨b1, b2, b3, b4, b5, b6⟩)
            · intro c
              rw [c.1, c.2] at b5 b6
              exact e1 ⟨by rw [← b5, c5], by rw [← b6, c6]⟩
            · intro c
              rw [c.1, c.2] at b5 b6
              exact e2 ⟨by rw [← b5, ← hr], by rw [← b6, ← hj]⟩
    · rename_i h2
      subst p2
      exact hT.putA p1 h2 (.inl rfl)
end
end Go.Proofs.Ytcnaaobeooiojaa
