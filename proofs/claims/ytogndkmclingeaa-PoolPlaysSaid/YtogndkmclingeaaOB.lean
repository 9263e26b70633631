import Derived.Test.YtogndkmclingeaaOA
namespace Go.Proofs.Ytogndkmclingeaa
set_option linter.unusedSimpArgs false
set_option linter.unusedVariables false
open Go.RX
theorem u8_rng {x : Int} (h : (Lit.int .u8 x).wf = true) : 0 ≤ x ∧ x < 256 := by
  simp [Lit.wf, IntKind.min, IntKind.max, IntKind.bits, IntKind.signed] at h
  omega
/-- One frame that is taken, the others free. -/
def oneL (N : Nat) (d : DT) : List DT := (List.replicate N zD).set 0 d
theorem oneL_len (N : Nat) (d : DT) : (oneL N d).length = N := by simp [oneL]
theorem oneL_get {N : Nat} (h : 0 < N) (d : DT) : (oneL N d).getD (0 : Int).toNat zD = d := by
  unfold oneL
  show ((List.replicate N zD).set 0 d).getD 0 zD = d
  rw [List.getD_eq_getElem?_getD, List.getElem?_set_self (by simpa using h)]; rfl
theorem oneL_chE {N : Nat} (h : 0 < N) (d : DT) (g : DT → DT × Int) : chE (oneL N d) 0 g = (g d).2 := by
  rw [chE_in (by rw [oneL_len]; omega), oneL_get h]
theorem oneL_chL {N : Nat} (h : 0 < N) (d : DT) (g : DT → DT × Int) : chL (oneL N d) 0 g = if (g d).2 = 0 then oneL N (g d).1 else oneL N d := by
  rw [chL_in (by rw [oneL_len]; omega), oneL_get h]
  unfold oneL
  rw [show (0 : Int).toNat = 0 from rfl, List.set_set]
theorem oneL_zero (N : Nat) : oneL N zD = List.replicate N zD := by
  unfold oneL
  apply List.ext_getElem?
  intro j
  by_cases e : j = 0
  · subst e
    by_cases h : 0 < N
    · rw [List.getElem?_set_self (by simpa using h), List.getElem?_replicate, if_pos h]
    · have : N = 0 := by omega
      subst this; rfl
  · rw [List.getElem?_set_ne (fun h => e h.symm)]
theorem oneL_free {N : Nat} (h : 0 < N) : freeI (oneL N zD) = some 0 :=
  free_some (d := zD) (by rw [oneL_zero, List.getElem?_replicate, if_pos h]) rfl (fun j d hj => absurd hj (by omega))
theorem cnt_zero (N : Nat) : cntL (List.replicate N zD) 0 = N := by
  unfold cntL
  rw [List.countP_replicate]
  rfl
/-- A guest's frame with so many refs. -/
def gst (o i : Int) : DT := (4, o, i, 0, ())
theorem gst_right {o i : Int} (ho : 1 ≤ o ∧ o ≤ 16) (hi : 0 ≤ i ∧ i ≤ 65535) : rightD 4 o i 0 = true := decide_eq_true (by unfold rightP; omega)
theorem gst_ref {o i x : Int} (ho : 1 ≤ o ∧ o ≤ 16) (hi : 0 ≤ i ∧ i ≤ 65535) (hx : 0 ≤ i + x ∧ i + x ≤ 65535) : refG x (gst o i) = (gst o (i + x), 0) := by
  have e : refE 4 o i 0 x = 0 := by unfold refE; rw [if_neg (by rw [gst_right ho hi]; decide), if_pos (by omega), if_neg (by omega)]
  unfold refG gst
  simp only [e]
  unfold refV
  rw [if_pos e]
theorem gst_refOut {o i x : Int} (ho : 1 ≤ o ∧ o ≤ 16) (hi : 0 ≤ i ∧ i ≤ 65535) (hx : i + x < 0) : (refG x (gst o i)).2 = 2 := by
  unfold refG gst refE
  simp only
  rw [if_neg (by rw [gst_right ho hi]; decide), if_pos (Or.inr (Or.inr trivial)), if_pos (Or.inl hx)]
theorem gst_busy {o i k y : Int} (ho : 1 ≤ o ∧ o ≤ 16) (hi : 0 < i ∧ i ≤ 65535) : (turnG k y (gst o i)).2 = 9 := by
  unfold turnG gst nextE
  simp only
  rw [if_neg (by rw [gst_right ho (by omega)]; decide), if_pos hi.1]
theorem prefs_row (n : Int) (hn : (Lit.int .u8 n).wf = true) (r : Int) (hr : (Lit.int .u8 r).wf = true) (w : World) : CallsR Try.prog 5 (.el (.one .bool)) [.int .u8 n, .int .u8 r] w (fun b w' => b = true ∧ Ext w w') := by
  refine rxFn_ok (C := E3) (ann := prefs_vc_ann) (Eq.mpr (prefs_vc n r w _) ?_)
  have H := At.start [] w
  have hn' := u8_rng hn
  have hr' := u8_rng hr
  have c1 : convI .i64 n = n := wrap_i64_id (by omega) (by omega)
  have c2 : convI .i64 r = r := wrap_i64_id (by omega) (by omega)
  have c3 : addI .i64 1 n = 1 + n := addI_i64 (by omega) (by omega)
  have c4 : subI .i64 0 r = - r := by rw [subI_i64 (by omega) (by omega)]; omega
  have c5 : subI .i64 (-r) 1 = - r - 1 := subI_i64 (by omega) (by omega)
  simp only [c1, c2, c3, c4, c5]
  refine pnew_at H (1 + n) (fun h => absurd h (by omega)) fun _ _ bp bf w1 H => brP_neg rfl ?_
  have hpos : 0 < (1 + n).toNat := by omega
  generalize hN : (1 + n).toNat = N at H hpos ⊢
  rw [← oneL_zero] at H
  refine take_at H 0 1 rfl rfl (by decide) (oneL_len N zD).symm hpos (by omega) 4 3 fun w2 H => ?_
  have t1 : (turnG 4 3 zD).2 = 0 := by decide +kernel
  have t2 : (turnG 4 3 zD).1 = gst 3 0 := by decide +kernel
  have hE : chE (oneL N zD) ((0 : Nat) : Int) (turnG 4 3) = 0 := (oneL_chE hpos zD _).trans t1
  have hL : takeL (oneL N zD) 4 3 = oneL N (gst 3 0) := by
    unfold takeL; rw [oneL_free hpos]; exact (oneL_chL hpos zD _).trans (by rw [if_pos t1, t2])
  have hF : takeF (oneL N zD) 4 3 = 0 := by unfold takeF; rw [oneL_free hpos]; simp [hE]
  have hE2 : takeE (oneL N zD) 4 3 = 0 := by unfold takeE; rw [oneL_free hpos, if_neg (by rw [oneL_len]; omega)]; exact hE
  rw [hL] at H
  rw [hF, hE2]
  refine brP_neg rfl ?_
  have len : ∀ d, N = (oneL N d).length := fun d => (oneL_len N d).symm
  refine ⟨fun m s w' => ∃ i : Nat, s.1 = i ∧ m + i = r.toNat ∧ At [] w w' [(bp, [.slice (some ⟨bf, 0, none⟩) N N]), (bf, flat eD (oneL N (gst 3 i)) ++ [])], ⟨r.toNat, fun w3 h3 => ⟨0, rfl, rfl, H.ext h3⟩⟩, ?_⟩
  rintro m ⟨i', u⟩ w3 ⟨i, hi, hm, H⟩
  simp only at hi
  subst hi
  dsimp only
  refine brP_intro (fun c => ?_) (fun c => ?_)
  · have hi : (i : Int) < r := by simpa using c
    have g1 := gst_ref (o := 3) (i := i) (x := 1) (by omega) (by omega) (by omega)
    refine pref_at H 0 1 rfl rfl (by decide) (len _) hpos (by omega) 0 1 (by decide) fun w4 H => ?_
    rw [oneL_chL hpos, g1, if_pos rfl] at H
    rw [oneL_chE hpos, g1]
    refine brP_neg rfl ?_
    have b1 := gst_busy (o := 3) (i := (i : Int) + 1) (k := 0) (y := 0) (by omega) (by omega)
    have b2 := gst_busy (o := 3) (i := (i : Int) + 1) (k := 5) (y := 0) (by omega) (by omega)
    refine give_at H 0 1 rfl rfl (by decide) (len _) hpos (by omega) 0 fun w5 H => ?_
    rw [oneL_chL hpos, b1, if_neg (by decide)] at H
    rw [oneL_chE hpos, b1]
    refine brP_neg rfl ?_
    refine turn_at H 0 1 rfl rfl (by decide) (len _) hpos (by omega) 0 5 0 fun w6 H => ?_
    rw [oneL_chL hpos, b2, if_neg (by decide)] at H
    rw [oneL_chE hpos, b2]
    refine brP_neg rfl fun w7 h7 => ⟨m - 1, by omega, i + 1, by rw [addI_i64 (by omega) (by omega)]; rfl, by omega, H.ext h7⟩
  · have hi : (i : Int) = r := by simp only [decide_eq_false_iff_not] at c; omega
    rw [hi] at H
    have o1 := gst_refOut (o := 3) (i := r) (x := - r - 1) (by omega) (by omega) (by omega)
    have o2 := gst_ref (o := 3) (i := r) (x := - r) (by omega) (by omega) (by omega)
    refine pref_at H 0 1 rfl rfl (by decide) (len _) hpos (by omega) 0 (- r - 1) (by omega) fun w4 H => ?_
    rw [oneL_chL hpos, o1, if_neg (by decide)] at H
    rw [oneL_chE hpos, o1]
    refine pref_at H 0 1 rfl rfl (by decide) (len _) hpos (by omega) 0 (- r) (by omega) fun w5 H => ?_
    rw [oneL_chL hpos, o2, if_pos rfl, show r + -r = 0 by omega] at H
    rw [oneL_chE hpos, o2]
    refine brP_pos rfl ?_
    have t3 : turnG 5 0 (gst 3 0) = ((5, 3, 0, 0, ()), 0) := by decide +kernel
    have t4 : turnG 0 0 (5, 3, 0, 0, ()) = (zD, 0) := by decide +kernel
    refine turn_at H 0 1 rfl rfl (by decide) (len _) hpos (by omega) 0 5 0 fun w6 H => ?_
    rw [oneL_chL hpos, t3, if_pos rfl] at H
    rw [oneL_chE hpos, t3]
    refine brP_pos rfl ?_
    refine give_at H 0 1 rfl rfl (by decide) (len _) hpos (by omega) 0 fun w7 H => ?_
    rw [oneL_chL hpos, t4, if_pos rfl, oneL_zero] at H
    rw [oneL_chE hpos, t4]
    refine ⟨_, fun _ => count_q H 0 1 rfl rfl (by simp) (by omega) 0, _, fun _ => len_q H 0 rfl, brP_pos (by rw [cnt_zero]; simp) ?_⟩
    exact CaP.val H (s := .el (.one .bool)) true (fun w3 H => pknown_ok w3) fun w4 H => EnP.go H fun w5 H => ⟨rfl, H.all⟩
end Go.Proofs.Ytogndkmclingeaa
