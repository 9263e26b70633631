import Derived.Test.YtffnfcokgemgjaaVD
namespace Go.Proofs.Ytffnfcokgemgjaa
set_option linter.unusedSimpArgs false
set_option linter.unusedVariables false
set_option maxRecDepth 100000
open Go.RX
theorem flatI : ∀ xs : List Int, flat eI xs = xs.map (Value.int .i64)
  | [] => rfl
  | a :: l => by
    show [Value.int .i64 a] ++ flat eI l = _
    rw [flatI l]; rfl
theorem i_el {xs : List Int} {rest : List Value} {i : Nat} (hi : i < xs.length) : elAt (flat eI xs ++ rest) (0 + i * 1) eI = some (xs.getD i 0) := by
  have : (flat eI xs ++ rest)[0 + i * 1]? = some (.int .i64 (xs.getD i 0)) := by
    have hl : (flat eI xs).length = xs.length * 1 := flat_length eI xs
    rw [Nat.zero_add, Nat.mul_one, List.getElem?_append_left (by omega)]
    have e := flatI xs
    rw [e, List.getElem?_map, List.getElem?_eq_getElem hi, List.getD_eq_getElem?_getD, List.getElem?_eq_getElem hi]; rfl
  show (match (flat eI xs ++ rest)[0 + i * 1]? with | some v => (Sc.int .i64).proj v | none => none) = _
  rw [this]; rfl
/-! ### What is laid into other words -/
theorem inM_st (ws : List Int) (y z i : Int) : inM (stL ws y z) i = inM ws i := by unfold inM; rw [stL_len]
theorem ldE_st (ws : List Int) (y z i : Int) : ldE (stL ws y z) i = ldE ws i := by unfold ldE; rw [inM_st]
theorem ldV_st {ws : List Int} {y z i : Int} (h : y ≠ i) : ldV (stL ws y z) i = ldV ws i := by
  unfold ldV
  rw [inM_st]
  cases hi : inM ws i with
  | false => rfl
  | true =>
    rw [if_pos rfl, if_pos rfl]
    unfold stL
    split
    · rename_i hy
      rw [inM_iff] at hi hy
      rw [List.getD_eq_getElem?_getD, List.getD_eq_getElem?_getD, List.getElem?_set_ne (by omega)]
    · rfl
theorem step_st {ws : List Int} {y z p t : Int} {x : Int × Int × FT} (h : x.2.1 ≠ -1 → y ≠ atI x.1 p x.2.1) : stepS (stL ws y z) p t x = stepS ws p t x := by
  by_cases hx : x.2.1 = -1
  · rw [step_done hx, step_done hx]
  · unfold stepS
    rw [if_neg hx, if_neg hx, ldV_st (h hx), ldE_st]
theorem it_st {ws : List Int} {y z f p t : Int} : ∀ j : Nat, (∀ i < j, (itS ws f p t i).2.1 ≠ -1 → y ≠ atI (itS ws f p t i).1 p (itS ws f p t i).2.1) → itS (stL ws y z) f p t j = itS ws f p t j
  | 0, _ => rfl
  | j + 1, h => by
    show stepS (stL ws y z) p t (itS (stL ws y z) f p t j) = stepS ws p t (itS ws f p t j)
    rw [it_st j fun i hi => h i (by omega)]
    exact step_st (h j (by omega))
theorem okW_st {ws : List Int} {y z : Int} (h : okW ws) (hz : 0 ≤ z ∧ z < 18446744073709551616) : okW (stL ws y z) := by
  intro x hx
  unfold stL at hx
  split at hx
  · rcases List.mem_or_eq_of_mem_set hx with h1 | h1
    · exact h x h1
    · rw [h1]; exact hz
  · exact h x hx
def pathS (ws : List Int) (f p t : Int) (l : Nat) : List Int := (List.range l).map fun j => (itS ws f p t j).1
theorem path_len (ws : List Int) (f p t : Int) (l : Nat) : (pathS ws f p t l).length = l := by unfold pathS; simp
theorem path_get {ws : List Int} {f p t : Int} {l i : Nat} (h : i < l) : (pathS ws f p t l).getD i 0 = (itS ws f p t i).1 := by
  unfold pathS
  rw [List.getD_eq_getElem?_getD, List.getElem?_map, List.getElem?_range h]; rfl
theorem path_succ (ws : List Int) (f p t : Int) (l : Nat) : pathS ws f p t (l + 1) = pathS ws f p t l ++ [(itS ws f p t l).1] := by
  unfold pathS
  rw [List.range_succ, List.map_append]; rfl
theorem lfew_ok (p : Option Addr) (m c : Nat) (xs : List (ScsT sW)) (hm : m = xs.length) (_ : m ≤ maxLen) {w : World} (hx : Sl w (.agg sW) p xs) (hxw : ∀ x ∈ xs, okScs sW x) (x : Int) (hxx : (Lit.int .u16 x).wf = true) (y z : Int) (hz : (Lit.int .u64 z).wf = true) :
    CallsR Try.prog 7 (.el (.one .bool)) [.slice p m c, .int .u16 x, .agg ⟨[.int .i64 y, .int .u64 z]⟩] w (fun b w' => b = true ∧ Ext w w') := by
  refine rxFn_ok (C := M1) (ann := lfew_vc_ann) (Eq.mpr (lfew_vc p m c x y z w _) ?_)
  have hx1 := u16_rng hxx
  have hz := u64_rng hz
  rw [conv_id (x := x) (by omega) (by omega)]
  have H := At.start [] w
  refine AlP.go H fun b w1 H => both_at H p m c xs hm (fun w' A H => hx.ext H.all) fun bm bw bm2 bw2 ca la ca2 la2 w2 hca H => ?_
  have hW := ldW_ok _ (xs.take 200) rfl fun z hz => u64_rng (hxw z (List.mem_of_mem_take hz)).2.1
  generalize ldW (xs.take 200) = ws at H hW
  have hb := bad0 hx1 (k := 0) ⟨by decide, by decide⟩
  refine wnew_at H 0 x 0 (fun h => absurd (hb.symm.trans h) (by decide)) fun _ bk w3 H => brP_neg rfl ⟨_, QCalls.of (s := .tup [.one (.int .i64), .one (.int .i64)]) fun w' h' => mcount_q (H.ext h') 1 rfl, ?_⟩
  refine wall_q H 1 2 rfl rfl (by decide) hW.1.symm (by decide) hW.2 ⟨by omega, by omega⟩ 0 x 0 fun ca3 w4 hc3 H => ?_
  have hall : allS ws 0 x 0 = (itS ws 0 x 0 4).2.2 := if_neg (by rw [hb]; decide)
  obtain ⟨fv, hfv⟩ : ∃ fv, fv = allS ws 0 x 0 := ⟨_, rfl⟩
  rw [← hfv]
  obtain ⟨f1, f2, f3, f4, fu⟩ := fv
  refine AlP.go H fun b1 w5 H => StP.all 0 H rfl rfl rfl fun w6 H => ⟨_, QCalls.of (s := .tup [.one (.int .i64), .one (.int .i64)]) fun w' h' => mcount_q (H.ext h') 2 rfl, ?_⟩
  have H : At [] w w6 ((b1, [.int .i64 f1, .int .i64 f2, .int .i64 f3, .int .i64 f4]) :: [(bk, wcs 0 x 0 3 (0, 0, 0, 0, ()) (none, 0, 0)), (bm, mcs bw 160 160 ca3 la), (bw, flat eW ws ++ []), (bm2, mcs bw2 160 160 ca2 la2), (bw2, flat eW ws ++ []), (b, [.int .i64 y, .int .u64 z])]) := H
  have H := H.perm (L' := (bk, wcs 0 x 0 3 (0, 0, 0, 0, ()) (none, 0, 0)) :: (bm, mcs bw 160 160 ca3 la) :: (bw, flat eW ws ++ []) :: ([] ++ [(b1, [.int .i64 f1, .int .i64 f2, .int .i64 f3, .int .i64 f4]), (bm2, mcs bw2 160 160 ca2 la2), (bw2, flat eW ws ++ []), (b, [.int .i64 y, .int .u64 z])])) (by
    have h := (List.perm_middle (l₁ := [(bk, wcs 0 x 0 3 (0, 0, 0, 0, ()) (none, 0, 0)), (bm, mcs bw 160 160 ca3 la), (bw, flat eW ws ++ [])]) (a := (b1, [.int .i64 f1, .int .i64 f2, .int .i64 f3, .int .i64 f4])) (l₂ := [(bm2, mcs bw2 160 160 ca2 la2), (bw2, flat eW ws ++ []), (b, [.int .i64 y, .int .u64 z])]))
    exact h)
  refine ⟨fun q s w' => ∃ (i l : Nat) (Ls : List (Nat × List Value)) (s' : Option Addr × Nat × Nat) (ca' : Int), s.1 = i ∧ q + i = 4 ∧ l ≤ i ∧ PIn Ls s' (pathS ws 0 x 0 l) ∧ (∀ j < l, (itS ws 0 x 0 j).2.1 ≠ -1) ∧ (l = i ∨ (itS ws 0 x 0 l).2.1 = -1) ∧ (0 ≤ ca' ∧ ca' ≤ 204 + i) ∧
      At [] w w' ((bk, wcs (itS ws 0 x 0 l).1 x 0 (itS ws 0 x 0 l).2.1 (itS ws 0 x 0 l).2.2 s') :: (bm, mcs bw 160 160 ca' la) :: (bw, flat eW ws ++ []) :: (Ls ++ [(b1, [.int .i64 f1, .int .i64 f2, .int .i64 f3, .int .i64 f4]), (bm2, mcs bw2 160 160 ca2 la2), (bw2, flat eW ws ++ []), (b, [.int .i64 y, .int .u64 z])])),
    ⟨4, fun w4 h4 => ⟨0, 0, [], (none, 0, 0), ca3, rfl, rfl, Nat.le_refl _, .inl ⟨rfl, rfl, rfl⟩, fun j hj => by omega, .inl rfl, ⟨by omega, by omega⟩, H.ext h4⟩⟩, ?_⟩
  clear H
  rintro q ⟨i', u⟩ w7 ⟨i, l, Ls, s', ca', hi, hq, hli, hP, hnd, hle, hcc, H⟩
  simp only at hi
  subst hi
  dsimp only
  refine brP_intro (fun c1 => ?_) (fun c1 => ?_)
  · have hi4 : i < 4 := by have := of_decide_eq_true c1; omega
    have e1 : addI .i64 (i : Int) 1 = ((i + 1 : Nat) : Int) := by rw [addI_i64 (by omega) (by omega)]; rfl
    by_cases hd : (itS ws 0 x 0 l).2.1 = -1
    · refine wstep_done (fd := (itS ws 0 x 0 l).2.2) H 0 (by rw [← hd]; rfl) _ fun w8 H => fun w9 h9 => ⟨q - 1, by omega, i + 1, l, Ls, s', ca', e1, by omega, by omega, hP, hnd, .inr hd, ⟨by omega, by omega⟩, H.ext h9⟩
    · have hl : l = i := hle.resolve_right hd
      subst hl
      refine wstep_at H hP (by rw [path_len]; omega) hW.1.symm (by decide) hW.2 hd fun w8 Ls2 s2 hP2 H => fun w9 h9 => ?_
      have es : stepS ws x 0 ((itS ws 0 x 0 l).1, (itS ws 0 x 0 l).2.1, (itS ws 0 x 0 l).2.2) = itS ws 0 x 0 (l + 1) := rfl
      rw [es] at H
      rw [← path_succ] at hP2
      have hup := up_le (ws := ws) (i := atI (itS ws 0 x 0 l).1 x (itS ws 0 x 0 l).2.1) hcc (by omega)
      refine ⟨q - 1, by omega, l + 1, l + 1, Ls2, s2, _, e1, by omega, Nat.le_refl _, hP2, fun j hj => ?_, .inl rfl, ⟨hup.1, by omega⟩, H.ext h9⟩
      rcases Nat.lt_succ_iff_lt_or_eq.1 hj with h | h
      · exact hnd j h
      · rw [h]; exact hd
  have hi4 : i = 4 := by have := of_decide_eq_false c1; omega
  subst hi4
  have hdone : (itS ws 0 x 0 l).2.1 = -1 := by
    rcases hle with h | h
    · rw [h]
      rcases it_lv ws 0 x 0 4 with h | ⟨_, h⟩
      · exact h
      · omega
    · exact h
  have hl1 : 1 ≤ l := by
    rcases Nat.eq_zero_or_pos l with h | h
    · rw [h] at hdone; exact absurd hdone (show (3 : Int) ≠ -1 by decide)
    · exact h
  have h4l : itS ws 0 x 0 4 = itS ws 0 x 0 l := by
    have := it_stop hdone (4 - l)
    rwa [show l + (4 - l) = 4 by omega] at this
  have hlv : ∀ j < l, (itS ws 0 x 0 j).2.1 = 3 - (j : Int) := fun j hj => ((it_lv ws 0 x 0 j).resolve_left (hnd j hj)).1
  have hf : (itS ws 0 x 0 l).2.2 = (f1, f2, f3, f4, fu) := by rw [← h4l, ← hall, ← hfv]
  rw [hdone, hf] at H
  have H := H.perm (L' := (bk, wcs (itS ws 0 x 0 l).1 x 0 (-1) (f1, f2, f3, f4, fu) s') :: (bm, mcs bw 160 160 ca' la) :: (bw, flat eW ws ++ []) :: ([(b1, [.int .i64 f1, .int .i64 f2, .int .i64 f3, .int .i64 f4]), (bm2, mcs bw2 160 160 ca2 la2), (bw2, flat eW ws ++ []), (b, [.int .i64 y, .int .u64 z])] ++ Ls)) (.cons _ (.cons _ (.cons _ List.perm_append_comm)))
  refine ⟨((f1, f2, f3, f4, fu), true, ()), QCalls.of (s := .tup [.agg sF, .one .bool]) fun w' h' => (wres_ok ((H.get (i := 0) rfl).ext h')).mono fun _ _ h => ⟨h.1.trans (if_pos rfl), h.2⟩, ?_⟩
  refine AlP.go H fun b2 w8 H => StP.all 0 H rfl rfl rfl fun w9 H => ?_
  refine wpath_at H 1 rfl hP (fun h => by have := congrArg List.length h; rw [path_len] at this; simp at this; omega) (fun x hx => ?_) (by rw [path_len]; omega) fun b4 c4 rest4 w10 H => ?_
  · exact List.mem_cons_of_mem _ (List.mem_cons_of_mem _ (List.mem_cons_of_mem _ (List.mem_cons_of_mem _ (List.mem_append_right _ hx))))
  have e0 : (pathS ws 0 x 0 l).getD 0 0 = 0 := path_get (by omega)
  have hl4 : l ≤ 4 := hli
  have hpl := path_len ws 0 x 0 l
  have hsub : subI .i64 ca3 ca = ca3 - ca := subI_i64 (by omega) (by omega)
  refine LdP.at 1 H rfl rfl (LdP.at 5 H rfl rfl ⟨fun _ => ⟨rfl, by decide, by show (0 : Int) < ((pathS ws 0 x 0 l).length : Int); omega⟩, LdP.atA (x := 0) 0 H rfl ((i_el (i := 0) (by omega)).trans (congrArg some e0)) (brP_neg ?_ ?_)⟩)
  · show (!true || !(f1 == f1 && (f2 == f2 && (f3 == f3 && (f4 == f4 && true)))) || decide (subI .i64 ca3 ca > 4) || decide (((pathS ws 0 x 0 l).length : Int) < 1) || decide (((pathS ws 0 x 0 l).length : Int) > 4) || (0 : Int) != 0) = false
    rw [hsub, hpl, decide_eq_false (by omega : ¬ ca3 - ca > 4), decide_eq_false (by omega : ¬ (l : Int) < 1), decide_eq_false (by omega : ¬ (l : Int) > 4)]
    simp
  refine ⟨fun q s w' => ∃ i : Nat, s.1 = i ∧ q + i = l ∧ (∀ j < i, y ≠ atI (itS ws 0 x 0 j).1 x (3 - (j : Int))) ∧ At [] w w' _, ⟨l, fun w11 h11 => ⟨0, rfl, rfl, fun j hj => by omega, H.ext h11⟩⟩, ?_⟩
  clear H
  rintro q ⟨i', u⟩ w11 ⟨i, hi, hq, hno, H⟩
  simp only at hi
  subst hi
  dsimp only
  rw [hpl]
  refine brP_intro (fun c2 => ?_) (fun c2 => ?_)
  · have hil : i < l := by have := of_decide_eq_true c2; omega
    have e1 : addI .i64 (i : Int) 1 = ((i + 1 : Nat) : Int) := by rw [addI_i64 (by omega) (by omega)]; rfl
    have e2 : subI .i64 3 (i : Int) = 3 - (i : Int) := subI_i64 (by omega) (by omega)
    refine ⟨rfl, LdP.atA 8 H rfl rfl ⟨⟨rfl, by omega, by omega⟩, LdP.atA (x := (itS ws 0 x 0 i).1) 0 H rfl ((i_el (i := i) (by omega)).trans (congrArg some (path_get hil))) ⟨trivial, ?_⟩⟩⟩
    rw [e2]
    refine brP_intro (fun c3 => fin_known H.all) (fun c3 w12 h12 => ⟨q - 1, by omega, i + 1, e1, by omega, fun j hj => ?_, H.ext h12⟩)
    rcases Nat.lt_succ_iff_lt_or_eq.1 hj with h | h
    · exact hno j h
    · rw [h]; simpa using c3
  · have hil : i = l := by have := of_decide_eq_false c2; omega
    subst hil
    refine ⟨rfl, LdP.atA 8 H rfl rfl ⟨rfl, LdP.atA 8 H rfl rfl ?_⟩⟩
    refine mstore_at H 3 4 rfl rfl (by decide) hW.1.symm (by decide) y z fun w12 H => ?_
    refine LdP.at 5 H rfl rfl ?_
    have hW2 := okW_st (y := y) hW.2 hz
    refine wall_q (ws := stL ws y z) H 3 4 rfl rfl (by decide) (by rw [stL_len, hW.1]) (by decide) hW2 (by have := up_le (ws := ws) (i := y) hcc (by omega); omega) 0 x 0 fun ca5 w13 hc5 H => ⟨elAt_rd (H.get (i := 5) rfl) rfl, ?_⟩
    have hsame : allS (stL ws y z) 0 x 0 = (f1, f2, f3, f4, fu) := by
      have ha : allS (stL ws y z) 0 x 0 = (itS (stL ws y z) 0 x 0 4).2.2 := if_neg (by rw [hb]; decide)
      have hi := it_st (ws := ws) (y := y) (z := z) (f := 0) (p := x) (t := 0) i fun j hj _ => by rw [hlv j hj]; exact hno j hj
      have hst : (itS (stL ws y z) 0 x 0 i).2.1 = -1 := by rw [hi]; exact hdone
      have h4 := it_stop hst (4 - i)
      rw [show i + (4 - i) = 4 by omega] at h4
      rw [ha, h4, hi, hf]
    rw [hsame]
    exact brP_pos (by simp) (fin_known H.all)
theorem lfew_row (p : Option Addr) (m c : Nat) (xs : List (ScsT sW)) (hm : m = xs.length) (hmx : m ≤ maxLen) {w : World} (hx : Sl w (.agg sW) p xs) (hxw : ∀ x ∈ xs, okScs sW x) (x : Int) (hxx : (Lit.int .u16 x).wf = true) (v : ScsT sW) (hv : okScs sW v) :
    CallsR Try.prog 7 (.el (.one .bool)) [.slice p m c, .int .u16 x, .agg ⟨scsEmb sW v⟩] w (fun b w' => b = true ∧ Ext w w') := by
  obtain ⟨y, z, u⟩ := v
  exact lfew_ok p m c xs hm hmx hx hxw x hxx y z hv.2.1
end Go.Proofs.Ytffnfcokgemgjaa
