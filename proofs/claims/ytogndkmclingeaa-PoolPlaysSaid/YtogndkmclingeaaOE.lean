import Derived.Test.YtogndkmclingeaaOD
namespace Go.Proofs.Ytogndkmclingeaa
set_option linter.unusedSimpArgs false
set_option linter.unusedVariables false
open Go.RX
def lowK (ds : List DT) (j : Nat) : Nat := ds.countP fun d => decide (0 ≤ d.1) && decide (d.1 < (j : Int))
def lowO (ds : List DT) (j : Nat) : Nat := ds.countP fun d => decide (0 ≤ d.2.1) && decide (d.2.1 < (j : Int))
theorem lowK_zero (ds : List DT) : lowK ds 0 = 0 := by
  unfold lowK; rw [List.countP_eq_zero]; intro d _; simp
theorem lowO_zero (ds : List DT) : lowO ds 0 = 0 := by
  unfold lowO; rw [List.countP_eq_zero]; intro d _; simp
theorem count_split {α : Type} (f : α → Int) (j : Nat) : ∀ ds : List α, (ds.countP fun d => decide (0 ≤ f d) && decide (f d < ((j + 1 : Nat) : Int))) = (ds.countP fun d => decide (0 ≤ f d) && decide (f d < (j : Int))) + ds.countP fun d => f d == (j : Int)
  | [] => rfl
  | d :: ds => by
    rw [List.countP_cons, List.countP_cons, List.countP_cons, count_split f j ds]
    by_cases h1 : f d = (j : Int)
    · have e1 : (decide (0 ≤ f d) && decide (f d < ((j + 1 : Nat) : Int))) = true := by rw [h1]; simp; omega
      have e2 : (decide (0 ≤ f d) && decide (f d < (j : Int))) = false := by rw [h1]; simp
      have e3 : (f d == (j : Int)) = true := by rw [h1]; simp
      rw [if_pos e1, if_neg (by rw [e2]; decide), if_pos e3]; omega
    · have e3 : ¬ (f d == (j : Int)) = true := by simpa using h1
      have e1 : (decide (0 ≤ f d) && decide (f d < ((j + 1 : Nat) : Int))) = (decide (0 ≤ f d) && decide (f d < (j : Int))) := by
        congr 1
        rw [decide_eq_decide]; omega
      rw [e1, if_neg e3]; omega
theorem lowK_step (ds : List DT) (j : Nat) : lowK ds (j + 1) = lowK ds j + cntL ds (j : Int) := count_split (fun d : DT => d.1) j ds
theorem own_cnt (ds : List DT) (v : Int) : (ownL ds v).length = ds.countP fun d => d.2.1 == v := by
  have key : ∀ i, i ≤ ds.length → (ownL (ds.take i) v).length = (ds.take i).countP fun d => d.2.1 == v := by
    intro i
    induction i with
    | zero => intro _; rfl
    | succ i ih =>
      intro hi
      have hd : ds[i]? = some ds[i] := List.getElem?_eq_getElem (by omega)
      rw [own_take hd, List.length_append, ih (by omega), List.take_add_one, hd, List.countP_append]
      congr 1
      by_cases h : ds[i].2.1 = v <;> simp [h]
  have := key ds.length (Nat.le_refl _)
  rwa [List.take_length] at this
theorem lowO_step (ds : List DT) (j : Nat) : lowO ds (j + 1) = lowO ds j + (ownL ds (j : Int)).length := by
  rw [own_cnt]; exact count_split (fun d : DT => d.2.1) j ds
theorem lowK_all {ds : List DT} (h : okL ds) : lowK ds 6 = ds.length := by
  unfold lowK
  rw [List.countP_eq_length]
  intro d hd
  have hp : rightP d.1 d.2.1 d.2.2.1 d.2.2.2.1 := of_decide_eq_true (h d hd)
  unfold rightP at hp
  rw [Bool.and_eq_true, decide_eq_true_eq, decide_eq_true_eq]
  show 0 ≤ d.1 ∧ d.1 < ((6 : Nat) : Int)
  omega
theorem lowO_all {ds : List DT} (h : okL ds) : lowO ds 17 = ds.length := by
  unfold lowO
  rw [List.countP_eq_length]
  intro d hd
  have hp : rightP d.1 d.2.1 d.2.2.1 d.2.2.2.1 := of_decide_eq_true (h d hd)
  unfold rightP at hp
  rw [Bool.and_eq_true, decide_eq_true_eq, decide_eq_true_eq]
  show 0 ≤ d.2.1 ∧ d.2.1 < ((17 : Nat) : Int)
  omega
theorem low_le (ds : List DT) (j : Nat) : lowK ds j ≤ ds.length := List.countP_le_length
theorem lowO_le (ds : List DT) (j : Nat) : lowO ds j ≤ ds.length := List.countP_le_length
theorem free_get {ds : List DT} {f : Nat} (h : freeI ds = some f) : ∃ d, ds[f]? = some d ∧ d.1 = 0 := by
  unfold freeI at h
  rw [List.findIdx?_eq_some_iff_getElem] at h
  obtain ⟨hlt, h1, _⟩ := h
  exact ⟨ds[f], List.getElem?_eq_getElem hlt, by simpa using h1⟩
theorem free_cnt {ds : List DT} (h : freeI ds = none) : cntL ds 0 = 0 := by
  unfold freeI at h
  rw [List.findIdx?_eq_none_iff] at h
  unfold cntL
  rw [List.countP_eq_zero]
  intro d hd
  have := h d hd
  simpa using this
/-- What is taken. -/
theorem take_good {ds : List DT} {k o : Int} (hok : okL ds) (h : takeE ds k o = 0) (hn : ds.length ≠ 0) :
    ofV (takeL ds k o) (takeF ds k o) = (k, o, 0, 0, ()) ∧ cntL (takeL ds k o) 0 + 1 = cntL ds 0 := by
  unfold takeE at h
  rw [if_neg hn] at h
  cases hf : freeI ds with
  | none => rw [hf] at h; simp at h
  | some f =>
    rw [hf] at h
    simp only at h
    obtain ⟨d, hd, hd0⟩ := free_get hf
    have hlt : f < ds.length := (List.getElem?_eq_some_iff.1 hd).1
    have hr := hok d (List.mem_of_getElem? hd)
    have hp : rightP d.1 d.2.1 d.2.2.1 d.2.2.2.1 := of_decide_eq_true hr
    have hz : d = zD := by
      obtain ⟨a, b, c, e, u⟩ := d
      unfold rightP at hp
      simp only at hp hd0
      have : b = 0 ∧ c = 0 ∧ e = 0 := by omega
      obtain ⟨rfl, rfl, rfl⟩ := this
      subst hd0; rfl
    subst hz
    have hin : (0 : Int) ≤ ((f : Nat) : Int) ∧ ((f : Nat) : Int) < ds.length := by omega
    have hE : (turnG k o zD).2 = 0 := by
      rw [chE_in hin] at h
      have h' : (turnG k o (ds.getD f zD)).2 = 0 := h
      rwa [getD_some hd] at h'
    have hE' : nextE 0 0 0 0 k o = 0 := hE
    have hg := next_good hE'
    have hk : k ∈ leadsL 0 := by
      unfold nextE at hE'
      rw [if_neg (by rw [hg.2.2.2]; decide), if_neg hg.2.2.1] at hE'
      by_cases hm : k ∈ leadsL 0
      · exact hm
      · rw [if_neg hm] at hE'; omega
    have hk' : k = 1 ∨ k = 2 ∨ k = 3 ∨ k = 4 := by simpa [leadsL] using hk
    have hO : nextO 0 0 0 0 k o = o := by unfold nextO; rw [if_pos hE', if_neg (by omega)]
    have hT : turnG k o zD = ((k, o, 0, 0, ()), 0) := by
      have : turnG k o zD = ((nextK 0 0 0 0 k o, nextO 0 0 0 0 k o, 0, 0, ()), nextE 0 0 0 0 k o) := rfl
      rw [this, hg.1, hO, hE']
    obtain ⟨t1, t2, t3⟩ := takes hf hlt (getD_some hd) hT
    rw [t1, t3]
    refine ⟨(ofV_at (List.getElem?_set_self hlt)).1, ?_⟩
    have hpos : 0 < cntL ds 0 := by
      unfold cntL
      rw [List.countP_pos_iff]
      exact ⟨zD, List.mem_of_getElem? hd, rfl⟩
    unfold cntL at hpos ⊢
    rw [List.countP_set hlt]
    have e1 : ds[f] = zD := (List.getElem?_eq_some_iff.1 hd).2
    rw [e1, if_pos (by decide), if_neg (by simp; omega)]
    omega
theorem take_full {ds : List DT} {k o : Int} (h : takeE ds k o = 12) (hn : ds.length ≠ 0) : cntL ds 0 = 0 := by
  unfold takeE at h
  rw [if_neg hn] at h
  cases hf : freeI ds with
  | none => exact free_cnt hf
  | some f =>
    rw [hf] at h
    exfalso
    simp only at h
    unfold chE at h
    rw [if_neg hn] at h
    split at h
    · omega
    · revert h
      generalize (ds.getD ((f : Nat) : Int).toNat zD) = d
      show nextE _ _ _ _ _ _ = 12 → False
      unfold nextE
      split
      · omega
      · split
        · omega
        · split
          · split <;> split <;> omega
          · omega
end Go.Proofs.Ytogndkmclingeaa
