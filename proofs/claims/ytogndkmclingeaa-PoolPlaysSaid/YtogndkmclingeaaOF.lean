import Derived.Test.YtogndkmclingeaaOE
namespace Go.Proofs.Ytogndkmclingeaa
set_option linter.unusedSimpArgs false
set_option linter.unusedVariables false
open Go.RX
theorem pparts_row (p : Option Addr) (m c : Nat) (xs : List (ScsT opS)) (hm : m = xs.length) (hmx : m ≤ maxLen) {w : World} (hx : Sl w (.agg opS) p xs) (hxw : ∀ x ∈ xs, okScs opS x) :
    CallsR Try.prog 3 (.el (.one .bool)) [.slice p m c] w (fun b w' => b = true ∧ Ext w w') := by
  refine rxFn_ok (C := E3) (ann := pparts_vc_ann) (Eq.mpr (pparts_vc p m c w _) ?_)
  have H := At.start [] w
  refine pnew_at H 9 (fun h => absurd h (by decide)) fun _ _ bp bf w1 H => brP_neg rfl ?_
  refine ⟨fun q s w' => ∃ (i : Nat) (ds : List DT), s.1 = i ∧ q + i = 60 ∧ i ≤ 60 ∧ ds.length = 9 ∧ okL ds ∧ At [] w w' [(bp, [.slice (some ⟨bf, 0, none⟩) 9 9]), (bf, flat eD ds ++ [])], ⟨60, fun w3 h3 => ⟨0, List.replicate 9 zD, rfl, rfl, by decide, by simp, okL_zero 9, H.ext h3⟩⟩, ?_⟩
  rintro q ⟨i', u⟩ w3 ⟨i, ds, hi, hq, hi60, hdl, hok, H⟩
  simp only at hi
  subst hi
  dsimp only
  refine brP_intro (fun cc => ?_) (fun cc => ?_)
  · have him : i < m ∧ i < 60 := by simp only [Bool.and_eq_true, decide_eq_true_eq] at cc; omega
    have hxi : xs[i]? = some xs[i] := List.getElem?_eq_getElem (by omega)
    have hwx := hxw xs[i] (List.getElem_mem (by omega))
    generalize xs[i] = x at hxi hwx
    obtain ⟨xk, xf, xt, xo, xb, xu⟩ := x
    have hb : -9223372036854775808 ≤ xb ∧ xb < 9223372036854775808 := i64_wf hwx.2.2.2.2.1
    have hs := hx.ext H.all
    have ix : p.isSome = true ∧ 0 ≤ (i : Int) ∧ (i : Int) < (m : Int) := ⟨(hs i _ hxi).1, by omega, by omega⟩
    refine ⟨ix, LdP.of (xk, xf, xt, xo, xb, ()) (hs i _ hxi).2 ?_⟩
    refine AlP.go H fun b w4 H => StP.all 0 H rfl rfl rfl fun w5 H => ⟨_, count_q H 1 2 rfl rfl hdl.symm (by decide) 0, rfl, LdP.atA 0 H rfl rfl ?_⟩
    have hk : xk = 0 ∨ xk = 1 ∨ xk = 2 ∨ xk = 3 ∨ (xk ≠ 0 ∧ xk ≠ 1 ∧ xk ≠ 2 ∧ xk ≠ 3) := by
      clear hmx hxi hwx cc
      by_cases h0 : xk = 0
      · exact .inl h0
      by_cases h1 : xk = 1
      · exact .inr (.inl h1)
      by_cases h2 : xk = 2
      · exact .inr (.inr (.inl h2))
      by_cases h3 : xk = 3
      · exact .inr (.inr (.inr (.inl h3)))
      exact .inr (.inr (.inr (.inr ⟨h0, h1, h2, h3⟩)))
    rcases hk with rfl | rfl | rfl | rfl | ⟨n0, n1, n2, n3⟩
    · refine brP_pos rfl ⟨rfl, LdP.atA 0 H rfl rfl ⟨rfl, LdP.atA 0 H rfl rfl ?_⟩⟩
      refine take_at H 1 2 rfl rfl (by decide) hdl.symm (by decide) (by decide) xt xo fun w6 H => ?_
      have hg := fun h => take_good (k := xt) (o := xo) hok h (by omega)
      have hfull := fun h => take_full (ds := ds) (k := xt) (o := xo) h (by omega)
      have hdl2 := (takeL_len ds xt xo).trans hdl
      have hok2 := take_okL hok xt xo
      have hle : cntL ds 0 ≤ 9 := by rw [← hdl]; exact List.countP_le_length
      refine ⟨(ofV (takeL ds xt xo) (takeF ds xt xo), ofB (takeL ds xt xo) (takeF ds xt xo), ()), of_q H 1 2 rfl rfl hdl2.symm _, ?_⟩
      refine AlP.go H fun b1 w7 H => StP.all 0 H rfl rfl rfl fun w8 H => ⟨fun _ => rfl, LdP.atA 0 H rfl rfl ⟨fun _ => rfl, LdP.atA 1 H rfl rfl ⟨fun _ => rfl, LdP.atA 0 H rfl rfl ⟨fun _ => rfl, LdP.atA 1 H rfl rfl ⟨fun _ => rfl, LdP.atA 0 H rfl rfl ⟨_, fun _ => count_q H 2 3 rfl rfl hdl2.symm (by decide) 0, ?_⟩⟩⟩⟩⟩⟩
      refine brP_neg ?_ ?_
      · by_cases h0 : takeE ds xt xo = 0
        · obtain ⟨g1, g2⟩ := hg h0
          have e : subI .i64 ((cntL ds 0 : Nat) : Int) 1 = ((cntL (takeL ds xt xo) 0 : Nat) : Int) := by rw [subI_i64 (by omega) (by omega)]; omega
          simp [g1, h0, e]
        · by_cases h12 : takeE ds xt xo = 12
          · simp [h12, hfull h12]
          · simp [h0, h12]
      generalize takeL ds xt xo = ds at H hdl2 hok2
      have H : At [] w w8 ((b1, _) :: (b, [.int .i64 0, .int .i64 xf, .int .i64 xt, .int .i64 xo, .int .i64 xb]) :: (bp, [.slice (some ⟨bf, 0, none⟩) 9 9]) :: (bf, flat eD ds ++ []) :: []) := H
      have H := H.sub (List.sublist_cons_self _ _)
      refine ⟨rfl, LdP.atA 0 H rfl rfl (brP_neg rfl ⟨rfl, LdP.atA 0 H rfl rfl (brP_neg rfl ⟨rfl, LdP.atA 0 H rfl rfl (brP_neg rfl ?_)⟩)⟩)⟩
      refine ⟨fun q2 s w' => ∃ j : Nat, s.2.1 = j ∧ s.1 = (lowK ds j : Nat) ∧ q2 + j = 6 ∧ At [] w w' [(b, _), (bp, [.slice (some ⟨bf, 0, none⟩) 9 9]), (bf, flat eD ds ++ [])], ⟨6, fun w7 h7 => ⟨0, rfl, by rw [lowK_zero]; rfl, rfl, H.ext h7⟩⟩, ?_⟩
      rintro q2 ⟨a, j', u⟩ w7 ⟨j, hj, ha, hq2, H⟩
      simp only at hj ha
      subst hj; subst ha
      dsimp only
      have hlk := low_le ds j
      refine brP_intro (fun c4 => ?_) (fun c4 => ?_)
      · have hj6 : j < 6 := by simp only [decide_eq_true_eq] at c4; omega
        have hst := lowK_step ds j
        have hl2 := low_le ds (j + 1)
        exact ⟨_, count_q H 1 2 rfl rfl hdl2.symm (by decide) _, fun w8 h8 => ⟨q2 - 1, by omega, j + 1, by rw [addI_i64 (by omega) (by omega)]; rfl, by rw [addI_i64 (by omega) (by omega)]; omega, by omega, H.ext h8⟩⟩
      have hj6 : j = 6 := by simp only [decide_eq_false_iff_not] at c4; omega
      subst hj6
      refine ⟨fun q3 s w' => ∃ j : Nat, s.2.1 = j ∧ s.1 = (lowO ds j : Nat) ∧ q3 + j = 17 ∧ At [] w w' [(b, _), (bp, [.slice (some ⟨bf, 0, none⟩) 9 9]), (bf, flat eD ds ++ [])], ⟨17, fun w7 h7 => ⟨0, rfl, by rw [lowO_zero]; rfl, rfl, H.ext h7⟩⟩, ?_⟩
      rintro q3 ⟨a, j', u⟩ w8 ⟨j, hj, ha, hq3, H⟩
      simp only at hj ha
      subst hj; subst ha
      dsimp only
      have hlo := lowO_le ds j
      refine brP_intro (fun c4 => ?_) (fun c4 => ?_)
      · have hj6 : j < 17 := by simp only [decide_eq_true_eq] at c4; omega
        have hst := lowO_step ds j
        have hl2 := lowO_le ds (j + 1)
        refine owned_at H 1 2 rfl rfl hdl2.symm (by decide) _ fun r rows w9 H hr w10 h10 => ⟨q3 - 1, by omega, j + 1, by rw [addI_i64 (by omega) (by omega)]; rfl, ?_, by omega, (H.sub (List.sublist_append_left _ rows)).ext h10⟩
        have hr1 : r.2.1 = (ownL ds (j : Int)).length := hr.1.trans (by simp)
        rw [hr1, addI_i64 (by omega) (by omega)]; omega
      have hj17 : j = 17 := by simp only [decide_eq_false_iff_not] at c4; omega
      subst hj17
      refine brP_neg ?_ fun w9 h9 => ⟨q - 1, by omega, i + 1, ds, by rw [addI_i64 (by omega) (by omega)]; rfl, by omega, by omega, hdl2, hok2, (H.sub (List.sublist_cons_self _ _)).ext h9⟩
      rw [lowK_all hok2, lowO_all hok2, hdl2]
      rfl
    · refine brP_neg rfl ⟨rfl, LdP.atA 0 H rfl rfl (brP_pos rfl ⟨rfl, LdP.atA 0 H rfl rfl ?_⟩)⟩
      refine give_at H 1 2 rfl rfl (by decide) hdl.symm (by decide) (by decide) xf fun w6 H => ?_
      have hdl2 := (chL_len ds xf (turnG 0 0)).trans hdl
      have hok2 := turn_okL hok xf 0 0
      generalize chL ds xf (turnG 0 0) = ds at H hdl2 hok2
      refine ⟨rfl, LdP.atA 0 H rfl rfl (brP_neg rfl ⟨rfl, LdP.atA 0 H rfl rfl (brP_neg rfl ?_)⟩)⟩
      refine ⟨fun q2 s w' => ∃ j : Nat, s.2.1 = j ∧ s.1 = (lowK ds j : Nat) ∧ q2 + j = 6 ∧ At [] w w' [(b, _), (bp, [.slice (some ⟨bf, 0, none⟩) 9 9]), (bf, flat eD ds ++ [])], ⟨6, fun w7 h7 => ⟨0, rfl, by rw [lowK_zero]; rfl, rfl, H.ext h7⟩⟩, ?_⟩
      rintro q2 ⟨a, j', u⟩ w7 ⟨j, hj, ha, hq2, H⟩
      simp only at hj ha
      subst hj; subst ha
      dsimp only
      have hlk := low_le ds j
      refine brP_intro (fun c4 => ?_) (fun c4 => ?_)
      · have hj6 : j < 6 := by simp only [decide_eq_true_eq] at c4; omega
        have hst := lowK_step ds j
        have hl2 := low_le ds (j + 1)
        exact ⟨_, count_q H 1 2 rfl rfl hdl2.symm (by decide) _, fun w8 h8 => ⟨q2 - 1, by omega, j + 1, by rw [addI_i64 (by omega) (by omega)]; rfl, by rw [addI_i64 (by omega) (by omega)]; omega, by omega, H.ext h8⟩⟩
      have hj6 : j = 6 := by simp only [decide_eq_false_iff_not] at c4; omega
      subst hj6
      refine ⟨fun q3 s w' => ∃ j : Nat, s.2.1 = j ∧ s.1 = (lowO ds j : Nat) ∧ q3 + j = 17 ∧ At [] w w' [(b, _), (bp, [.slice (some ⟨bf, 0, none⟩) 9 9]), (bf, flat eD ds ++ [])], ⟨17, fun w7 h7 => ⟨0, rfl, by rw [lowO_zero]; rfl, rfl, H.ext h7⟩⟩, ?_⟩
      rintro q3 ⟨a, j', u⟩ w8 ⟨j, hj, ha, hq3, H⟩
      simp only at hj ha
      subst hj; subst ha
      dsimp only
      have hlo := lowO_le ds j
      refine brP_intro (fun c4 => ?_) (fun c4 => ?_)
      · have hj6 : j < 17 := by simp only [decide_eq_true_eq] at c4; omega
        have hst := lowO_step ds j
        have hl2 := lowO_le ds (j + 1)
        refine owned_at H 1 2 rfl rfl hdl2.symm (by decide) _ fun r rows w9 H hr w10 h10 => ⟨q3 - 1, by omega, j + 1, by rw [addI_i64 (by omega) (by omega)]; rfl, ?_, by omega, (H.sub (List.sublist_append_left _ rows)).ext h10⟩
        have hr1 : r.2.1 = (ownL ds (j : Int)).length := hr.1.trans (by simp)
        rw [hr1, addI_i64 (by omega) (by omega)]; omega
      have hj17 : j = 17 := by simp only [decide_eq_false_iff_not] at c4; omega
      subst hj17
      refine brP_neg ?_ fun w9 h9 => ⟨q - 1, by omega, i + 1, ds, by rw [addI_i64 (by omega) (by omega)]; rfl, by omega, by omega, hdl2, hok2, (H.sub (List.sublist_cons_self _ _)).ext h9⟩
      rw [lowK_all hok2, lowO_all hok2, hdl2]
      rfl
    · refine brP_neg rfl ⟨rfl, LdP.atA 0 H rfl rfl (brP_neg rfl ⟨rfl, LdP.atA 0 H rfl rfl (brP_pos rfl ⟨rfl, LdP.atA 0 H rfl rfl ⟨rfl, LdP.atA 0 H rfl rfl ⟨rfl, LdP.atA 0 H rfl rfl ?_⟩⟩⟩)⟩)⟩
      refine turn_at H 1 2 rfl rfl (by decide) hdl.symm (by decide) (by decide) xf xt xo fun w6 H => ?_
      have hdl2 := (chL_len ds xf (turnG xt xo)).trans hdl
      have hok2 := turn_okL hok xf xt xo
      generalize chL ds xf (turnG xt xo) = ds at H hdl2 hok2
      refine ⟨rfl, LdP.atA 0 H rfl rfl (brP_neg rfl ?_)⟩
      refine ⟨fun q2 s w' => ∃ j : Nat, s.2.1 = j ∧ s.1 = (lowK ds j : Nat) ∧ q2 + j = 6 ∧ At [] w w' [(b, _), (bp, [.slice (some ⟨bf, 0, none⟩) 9 9]), (bf, flat eD ds ++ [])], ⟨6, fun w7 h7 => ⟨0, rfl, by rw [lowK_zero]; rfl, rfl, H.ext h7⟩⟩, ?_⟩
      rintro q2 ⟨a, j', u⟩ w7 ⟨j, hj, ha, hq2, H⟩
      simp only at hj ha
      subst hj; subst ha
      dsimp only
      have hlk := low_le ds j
      refine brP_intro (fun c4 => ?_) (fun c4 => ?_)
      · have hj6 : j < 6 := by simp only [decide_eq_true_eq] at c4; omega
        have hst := lowK_step ds j
        have hl2 := low_le ds (j + 1)
        exact ⟨_, count_q H 1 2 rfl rfl hdl2.symm (by decide) _, fun w8 h8 => ⟨q2 - 1, by omega, j + 1, by rw [addI_i64 (by omega) (by omega)]; rfl, by rw [addI_i64 (by omega) (by omega)]; omega, by omega, H.ext h8⟩⟩
      have hj6 : j = 6 := by simp only [decide_eq_false_iff_not] at c4; omega
      subst hj6
      refine ⟨fun q3 s w' => ∃ j : Nat, s.2.1 = j ∧ s.1 = (lowO ds j : Nat) ∧ q3 + j = 17 ∧ At [] w w' [(b, _), (bp, [.slice (some ⟨bf, 0, none⟩) 9 9]), (bf, flat eD ds ++ [])], ⟨17, fun w7 h7 => ⟨0, rfl, by rw [lowO_zero]; rfl, rfl, H.ext h7⟩⟩, ?_⟩
      rintro q3 ⟨a, j', u⟩ w8 ⟨j, hj, ha, hq3, H⟩
      simp only at hj ha
      subst hj; subst ha
      dsimp only
      have hlo := lowO_le ds j
      refine brP_intro (fun c4 => ?_) (fun c4 => ?_)
      · have hj6 : j < 17 := by simp only [decide_eq_true_eq] at c4; omega
        have hst := lowO_step ds j
        have hl2 := lowO_le ds (j + 1)
        refine owned_at H 1 2 rfl rfl hdl2.symm (by decide) _ fun r rows w9 H hr w10 h10 => ⟨q3 - 1, by omega, j + 1, by rw [addI_i64 (by omega) (by omega)]; rfl, ?_, by omega, (H.sub (List.sublist_append_left _ rows)).ext h10⟩
        have hr1 : r.2.1 = (ownL ds (j : Int)).length := hr.1.trans (by simp)
        rw [hr1, addI_i64 (by omega) (by omega)]; omega
      have hj17 : j = 17 := by simp only [decide_eq_false_iff_not] at c4; omega
      subst hj17
      refine brP_neg ?_ fun w9 h9 => ⟨q - 1, by omega, i + 1, ds, by rw [addI_i64 (by omega) (by omega)]; rfl, by omega, by omega, hdl2, hok2, (H.sub (List.sublist_cons_self _ _)).ext h9⟩
      rw [lowK_all hok2, lowO_all hok2, hdl2]
      rfl
    · refine brP_neg rfl ⟨rfl, LdP.atA 0 H rfl rfl (brP_neg rfl ⟨rfl, LdP.atA 0 H rfl rfl (brP_neg rfl ⟨rfl, LdP.atA 0 H rfl rfl (brP_pos rfl ⟨rfl, LdP.atA 0 H rfl rfl ⟨rfl, LdP.atA 0 H rfl rfl ?_⟩⟩)⟩)⟩)⟩
      refine pref_at H 1 2 rfl rfl (by decide) hdl.symm (by decide) (by decide) xf xb hb fun w6 H => ?_
      have hdl2 := (chL_len ds xf (refG xb)).trans hdl
      have hok2 := ref_okL hok xf xb
      generalize chL ds xf (refG xb) = ds at H hdl2 hok2
      refine ⟨fun q2 s w' => ∃ j : Nat, s.2.1 = j ∧ s.1 = (lowK ds j : Nat) ∧ q2 + j = 6 ∧ At [] w w' [(b, _), (bp, [.slice (some ⟨bf, 0, none⟩) 9 9]), (bf, flat eD ds ++ [])], ⟨6, fun w7 h7 => ⟨0, rfl, by rw [lowK_zero]; rfl, rfl, H.ext h7⟩⟩, ?_⟩
      rintro q2 ⟨a, j', u⟩ w7 ⟨j, hj, ha, hq2, H⟩
      simp only at hj ha
      subst hj; subst ha
      dsimp only
      have hlk := low_le ds j
      refine brP_intro (fun c4 => ?_) (fun c4 => ?_)
      · have hj6 : j < 6 := by simp only [decide_eq_true_eq] at c4; omega
        have hst := lowK_step ds j
        have hl2 := low_le ds (j + 1)
        exact ⟨_, count_q H 1 2 rfl rfl hdl2.symm (by decide) _, fun w8 h8 => ⟨q2 - 1, by omega, j + 1, by rw [addI_i64 (by omega) (by omega)]; rfl, by rw [addI_i64 (by omega) (by omega)]; omega, by omega, H.ext h8⟩⟩
      have hj6 : j = 6 := by simp only [decide_eq_false_iff_not] at c4; omega
      subst hj6
      refine ⟨fun q3 s w' => ∃ j : Nat, s.2.1 = j ∧ s.1 = (lowO ds j : Nat) ∧ q3 + j = 17 ∧ At [] w w' [(b, _), (bp, [.slice (some ⟨bf, 0, none⟩) 9 9]), (bf, flat eD ds ++ [])], ⟨17, fun w7 h7 => ⟨0, rfl, by rw [lowO_zero]; rfl, rfl, H.ext h7⟩⟩, ?_⟩
      rintro q3 ⟨a, j', u⟩ w8 ⟨j, hj, ha, hq3, H⟩
      simp only at hj ha
      subst hj; subst ha
      dsimp only
      have hlo := lowO_le ds j
      refine brP_intro (fun c4 => ?_) (fun c4 => ?_)
      · have hj6 : j < 17 := by simp only [decide_eq_true_eq] at c4; omega
        have hst := lowO_step ds j
        have hl2 := lowO_le ds (j + 1)
        refine owned_at H 1 2 rfl rfl hdl2.symm (by decide) _ fun r rows w9 H hr w10 h10 => ⟨q3 - 1, by omega, j + 1, by rw [addI_i64 (by omega) (by omega)]; rfl, ?_, by omega, (H.sub (List.sublist_append_left _ rows)).ext h10⟩
        have hr1 : r.2.1 = (ownL ds (j : Int)).length := hr.1.trans (by simp)
        rw [hr1, addI_i64 (by omega) (by omega)]; omega
      have hj17 : j = 17 := by simp only [decide_eq_false_iff_not] at c4; omega
      subst hj17
      refine brP_neg ?_ fun w9 h9 => ⟨q - 1, by omega, i + 1, ds, by rw [addI_i64 (by omega) (by omega)]; rfl, by omega, by omega, hdl2, hok2, (H.sub (List.sublist_cons_self _ _)).ext h9⟩
      rw [lowK_all hok2, lowO_all hok2, hdl2]
      rfl
    · refine brP_neg (by simpa using n0) ⟨rfl, LdP.atA 0 H rfl rfl (brP_neg (by simpa using n1) ⟨rfl, LdP.atA 0 H rfl rfl (brP_neg (by simpa using n2) ⟨rfl, LdP.atA 0 H rfl rfl (brP_neg (by simpa using n3) ?_)⟩)⟩)⟩
      have hdl2 := hdl
      have hok2 := hok
      refine ⟨fun q2 s w' => ∃ j : Nat, s.2.1 = j ∧ s.1 = (lowK ds j : Nat) ∧ q2 + j = 6 ∧ At [] w w' [(b, _), (bp, [.slice (some ⟨bf, 0, none⟩) 9 9]), (bf, flat eD ds ++ [])], ⟨6, fun w7 h7 => ⟨0, rfl, by rw [lowK_zero]; rfl, rfl, H.ext h7⟩⟩, ?_⟩
      rintro q2 ⟨a, j', u⟩ w7 ⟨j, hj, ha, hq2, H⟩
      simp only at hj ha
      subst hj; subst ha
      dsimp only
      have hlk := low_le ds j
      refine brP_intro (fun c4 => ?_) (fun c4 => ?_)
      · have hj6 : j < 6 := by simp only [decide_eq_true_eq] at c4; omega
        have hst := lowK_step ds j
        have hl2 := low_le ds (j + 1)
        exact ⟨_, count_q H 1 2 rfl rfl hdl2.symm (by decide) _, fun w8 h8 => ⟨q2 - 1, by omega, j + 1, by rw [addI_i64 (by omega) (by omega)]; rfl, by rw [addI_i64 (by omega) (by omega)]; omega, by omega, H.ext h8⟩⟩
      have hj6 : j = 6 := by simp only [decide_eq_false_iff_not] at c4; omega
      subst hj6
      refine ⟨fun q3 s w' => ∃ j : Nat, s.2.1 = j ∧ s.1 = (lowO ds j : Nat) ∧ q3 + j = 17 ∧ At [] w w' [(b, _), (bp, [.slice (some ⟨bf, 0, none⟩) 9 9]), (bf, flat eD ds ++ [])], ⟨17, fun w7 h7 => ⟨0, rfl, by rw [lowO_zero]; rfl, rfl, H.ext h7⟩⟩, ?_⟩
      rintro q3 ⟨a, j', u⟩ w8 ⟨j, hj, ha, hq3, H⟩
      simp only at hj ha
      subst hj; subst ha
      dsimp only
      have hlo := lowO_le ds j
      refine brP_intro (fun c4 => ?_) (fun c4 => ?_)
      · have hj6 : j < 17 := by simp only [decide_eq_true_eq] at c4; omega
        have hst := lowO_step ds j
        have hl2 := lowO_le ds (j + 1)
        refine owned_at H 1 2 rfl rfl hdl2.symm (by decide) _ fun r rows w9 H hr w10 h10 => ⟨q3 - 1, by omega, j + 1, by rw [addI_i64 (by omega) (by omega)]; rfl, ?_, by omega, (H.sub (List.sublist_append_left _ rows)).ext h10⟩
        have hr1 : r.2.1 = (ownL ds (j : Int)).length := hr.1.trans (by simp)
        rw [hr1, addI_i64 (by omega) (by omega)]; omega
      have hj17 : j = 17 := by simp only [decide_eq_false_iff_not] at c4; omega
      subst hj17
      refine brP_neg ?_ fun w9 h9 => ⟨q - 1, by omega, i + 1, ds, by rw [addI_i64 (by omega) (by omega)]; rfl, by omega, by omega, hdl2, hok2, (H.sub (List.sublist_cons_self _ _)).ext h9⟩
      rw [lowK_all hok2, lowO_all hok2, hdl2]
      rfl
  · exact CaP.val H (s := .el (.one .bool)) true (fun w3 H => pknown_ok w3) fun w4 H => EnP.go H fun w5 H => ⟨rfl, H.all⟩
end Go.Proofs.Ytogndkmclingeaa
