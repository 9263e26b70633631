import Derived.Test.YtffnfcokgemgjaaV7
import Derived.Test.YtffnfcokgemgjaaLift
namespace Go.Proofs.Ytffnfcokgemgjaa
set_option linter.unusedSimpArgs false
set_option linter.unusedVariables false
set_option maxRecDepth 100000
open Go.RX
abbrev sW : List Sc := [.int .i64, .int .u64]
def ldW (xs : List (ScsT sW)) : List Int := xs.foldl (fun ws x => stL ws x.1 x.2.1) (List.replicate 160 0)
theorem ldW_snoc (xs : List (ScsT sW)) (x : ScsT sW) : ldW (xs ++ [x]) = stL (ldW xs) x.1 x.2.1 := by unfold ldW; rw [List.foldl_append]; rfl
theorem ld_len : ∀ (xs : List (ScsT sW)) (ws : List Int), (xs.foldl (fun ws (x : ScsT sW) => stL ws x.1 x.2.1) ws).length = ws.length
  | [], _ => rfl
  | x :: xs, ws => (ld_len xs (stL ws x.1 x.2.1)).trans (stL_len _ _ _)
theorem ldW_ok : ∀ (n : Nat) (xs : List (ScsT sW)), xs.length = n → (∀ x ∈ xs, (0 : Int) ≤ x.2.1 ∧ (x.2.1 : Int) < 18446744073709551616) → (ldW xs).length = 160 ∧ okW (ldW xs)
  | 0, xs, hn, _ => by
    have : xs = [] := List.length_eq_zero_iff.1 hn
    subst this
    refine ⟨by unfold ldW; simp, fun x hx => ?_⟩
    have : x ∈ List.replicate 160 (0 : Int) := hx
    rw [List.eq_of_mem_replicate this]; exact ⟨by decide, by decide⟩
  | n + 1, xs, hn, h => by
    obtain ⟨ys, y, rfl⟩ : ∃ ys y, xs = ys ++ [y] := by
      have hne : xs ≠ [] := fun e => by rw [e] at hn; cases hn
      exact ⟨xs.dropLast, xs.getLast hne, (List.dropLast_concat_getLast hne).symm⟩
    obtain ⟨h1, h2⟩ := ldW_ok n ys (by simpa using hn) fun x hx => h x (List.mem_append_left _ hx)
    rw [ldW_snoc]
    refine ⟨(stL_len _ _ _).trans h1, fun x hx => ?_⟩
    unfold stL at hx
    split at hx
    · rcases List.mem_or_eq_of_mem_set hx with hx | rfl
      · exact h2 x hx
      · exact h y (List.mem_append_right _ (List.mem_singleton.2 rfl))
    · exact h2 x hx
theorem up_le {ws : List Int} {i ca : Int} {k : Int} (h : 0 ≤ ca ∧ ca ≤ k) (hk : k ≤ 1000000) : 0 ≤ upM ws i ca ∧ upM ws i ca ≤ k + 1 := by
  unfold upM
  split
  · rw [addI_i64 (by omega) (by omega)]; omega
  · omega
section
variable {w0 w : World} {L : List (Nat × List Value)}
theorem both_at (H : At [] w0 w L) (p : Option Addr) (n c : Nat) (xs : List (ScsT sW)) (hn : n = xs.length) (hx : ∀ w' A, At [] w0 w' (A ++ L) → Sl w' (.agg sW) p xs) {K : Option Addr × Option Addr × Unit → World → Prop}
    (k : ∀ bm bw bm2 bw2 ca la ca2 la2 w1, 0 ≤ ca ∧ ca ≤ 200 → At [] w0 w1 ((bm, mcs bw 160 160 ca la) :: (bw, flat eW (ldW (xs.take 200)) ++ []) :: (bm2, mcs bw2 160 160 ca2 la2) :: (bw2, flat eW (ldW (xs.take 200)) ++ []) :: L) → K (some ⟨bm, 0, none⟩, some ⟨bm2, 0, none⟩, ()) w1) :
    CaP Try.prog 8 (.tup [.one .ptr, .one .ptr]) [.slice p n c] w K := by
  refine CaP.go H fun w1 H => rxFn_ok (C := M0) (ann := both_vc_ann) (Eq.mpr (both_vc p n c w1 K) ?_)
  refine mnew_at (n := 160) H ⟨by decide, by decide⟩ fun bm bw w2 H => ?_
  refine nnew_at (n := 160) H ⟨by decide, by decide⟩ fun bm2 bw2 w3 H => ?_
  have H := H.perm (L' := [(bm, mcs bw 160 160 0 0), (bw, flat eW (List.replicate 160 0) ++ [])] ++ ([(bm2, mcs bw2 160 160 0 0), (bw2, flat eW (List.replicate 160 0) ++ [])] ++ L)) (by
    rw [← List.append_assoc]
    exact List.Perm.append_right L (List.perm_append_comm (l₁ := [(bm, mcs bw 160 160 0 0), (bw, flat eW (List.replicate 160 0) ++ [])]) (l₂ := [(bm2, mcs bw2 160 160 0 0), (bw2, flat eW (List.replicate 160 0) ++ [])])))
  refine ⟨fun q s w' => ∃ (i : Nat) (ca la ca2 la2 : Int), s.1 = i ∧ q + i = 200 ∧ (0 ≤ ca ∧ ca ≤ i) ∧ i ≤ n ∧ At [] w0 w' ((bm, mcs bw 160 160 ca la) :: (bw, flat eW (ldW (xs.take i)) ++ []) :: (bm2, mcs bw2 160 160 ca2 la2) :: (bw2, flat eW (ldW (xs.take i)) ++ []) :: L), ⟨200, fun w4 h4 => ⟨0, 0, 0, 0, 0, rfl, rfl, by decide, by omega, H.ext h4⟩⟩, ?_⟩
  clear H
  rintro q ⟨i', u⟩ w4 ⟨i, ca, la, ca2, la2, hi, hq, hca, hin, H⟩
  simp only at hi
  subst hi
  dsimp only
  have hlen : ∀ j, (ldW (xs.take j)).length = 160 := fun j => by
    exact (ld_len _ _).trans (by simp)
  refine brP_intro (fun c1 => ?_) (fun c1 => ?_)
  · have him : i < n ∧ i < 200 := by simp only [Bool.and_eq_true, decide_eq_true_eq] at c1; omega
    have hxi : xs[i]? = some xs[i] := List.getElem?_eq_getElem (by omega)
    generalize hxv : xs[i] = x at hxi
    obtain ⟨xa, xv, xu⟩ := x
    have hs := hx w4 [_, _, _, _] H
    have ixx : p.isSome = true ∧ 0 ≤ (i : Int) ∧ (i : Int) < (n : Int) := ⟨(hs i _ hxi).1, by omega, by omega⟩
    have had : (addP p (i * 2)).isSome = true := addP_some (hs i _ hxi).1 _
    have r0 : ∀ {w' : World} {A}, At [] w0 w' (A ++ L) → rdAt w' (addP (addP p (((i : Nat) : Int).toNat * 2)) 0) (.one (.int .i64)) xa := fun H => rdAt_fld (hx _ _ H i _ hxi).2 (by decide) rfl
    have r1 : ∀ {w' : World} {A}, At [] w0 w' (A ++ L) → rdAt w' (addP (addP p (((i : Nat) : Int).toNat * 2)) 1) (.one (.int .u64)) xv := fun H => rdAt_fld (hx _ _ H i _ hxi).2 (by decide) rfl
    refine ⟨ixx, had, LdP.of xa (r0 (A := [_, _, _, _]) H) ⟨ixx, had, LdP.of xv (r1 (A := [_, _, _, _]) H) ?_⟩⟩
    refine mstore_at H 0 1 rfl rfl (by decide) (hlen i).symm (by decide) xa xv fun w5 H => ?_
    refine ⟨ixx, had, LdP.of xa (r0 (A := [_, _, _, _]) H) ⟨ixx, had, LdP.of xv (r1 (A := [_, _, _, _]) H) ?_⟩⟩
    refine nstore_at H 2 3 rfl rfl (by decide) (hlen i).symm xa xv fun w6 H => fun w7 h7 => ?_
    have et : xs.take (i + 1) = xs.take i ++ [(xa, xv, xu)] := by rw [List.take_add_one, hxi]; rfl
    have e2 : ldW (xs.take (i + 1)) = stL (ldW (xs.take i)) xa xv := by rw [et, ldW_snoc]
    refine ⟨q - 1, by omega, i + 1, upM (ldW (xs.take i)) xa ca, upM (ldW (xs.take i)) xa la, upM (ldW (xs.take i)) xa ca2, upM (ldW (xs.take i)) xa la2, by rw [addI_i64 (by omega) (by omega)]; rfl, by omega, up_le hca (by omega), by omega, ?_⟩
    rw [e2]
    exact H.ext h7
  · have hi2 : xs.take i = xs.take 200 := by
      simp only [Bool.and_eq_false_iff, decide_eq_false_iff_not] at c1
      rcases c1 with h | h
      · rw [List.take_of_length_le (by omega), List.take_of_length_le (by omega)]
      · rw [show i = 200 by omega]
    rw [hi2] at H
    exact EnP.go H fun w5 H => k bm bw bm2 bw2 ca la ca2 la2 w5 (by omega) H
/-! ### All -/
def itS (ws : List Int) (f p t : Int) : Nat → Int × Int × FT
  | 0 => (f, 3, (0, 0, 0, 0, ()))
  | k + 1 => stepS ws p t (itS ws f p t k)
def allS (ws : List Int) (f p t : Int) : FT := if badW f p t then (0, 0, 0, 1, ()) else (itS ws f p t 4).2.2
theorem step_done {ws : List Int} {p t : Int} {x : Int × Int × FT} (h : x.2.1 = -1) : stepS ws p t x = x := if_pos h
theorem took_lv {fr pg wt lv : Int} {fd : FT} {ep : Bool} {er : Int} {el : Bool} {ef : Int} (hl : 0 ≤ lv ∧ lv ≤ 3) : (tookS fr pg wt lv fd ep er el ef).2.1 = -1 ∨ ((tookS fr pg wt lv fd ep er el ef).2.1 = lv - 1 ∧ 0 < lv) := by
  unfold tookS
  split
  · exact .inl rfl
  · split
    · rename_i h
      rw [Bool.and_eq_true, decide_eq_true_eq] at h
      exact .inr ⟨subI_i64 (by omega) (by omega), by omega⟩
    · split
      · exact .inl rfl
      · split <;> exact .inl rfl
theorem it_lv (ws : List Int) (f p t : Int) : ∀ k : Nat, (itS ws f p t k).2.1 = -1 ∨ ((itS ws f p t k).2.1 = 3 - (k : Int) ∧ k ≤ 3)
  | 0 => .inr ⟨rfl, by decide⟩
  | k + 1 => by
    rcases it_lv ws f p t k with h | ⟨h, hk⟩
    · left
      show (stepS ws p t (itS ws f p t k)).2.1 = -1
      rw [step_done h]; exact h
    · show (stepS ws p t (itS ws f p t k)).2.1 = -1 ∨ ((stepS ws p t (itS ws f p t k)).2.1 = 3 - ((k + 1 : Nat) : Int) ∧ k + 1 ≤ 3)
      generalize itS ws f p t k = x at h
      unfold stepS
      rw [if_neg (by omega)]
      split
      · exact .inl rfl
      · rcases took_lv (fr := x.1) (pg := p) (wt := t) (lv := x.2.1) (fd := x.2.2) (by omega) with e | ⟨e, e2⟩
        · exact .inl (e ..)
        · exact .inr ⟨by rw [e]; omega, by omega⟩
theorem it_stop {ws : List Int} {f p t : Int} {k : Nat} (h : (itS ws f p t k).2.1 = -1) : ∀ j, itS ws f p t (k + j) = itS ws f p t k
  | 0 => rfl
  | j + 1 => by
    show stepS ws p t (itS ws f p t (k + j)) = _
    rw [it_stop h j, step_done h]
theorem wall_at {bm bw n c : Nat} {ca la : Int} {ws : List Int} {rest : List Value} {L0 : List (Nat × List Value)} (H : At [] w0 w ((bm, mcs bw n c ca la) :: (bw, flat eW ws ++ rest) :: L0)) (hn : n = ws.length) (h0 : 0 < n) (hW : okW ws) (hca : 0 ≤ ca ∧ ca ≤ 1000) (f p t : Int) {K : FT → World → Prop}
    (k : ∀ ca' w1, ca ≤ ca' ∧ ca' ≤ ca + 4 → At [] w0 w1 ((bm, mcs bw n c ca' la) :: (bw, flat eW ws ++ rest) :: L0) → K (allS ws f p t) w1) :
    CaP Try.prog 10 (.el (.agg sF)) [.pointer (some ⟨bm, 0, none⟩), .int .i64 f, .int .i64 p, .int .i64 t] w K := by
  refine CaP.go H fun w1 H => rxFnR_ok (C := M1) (ann := wall_vc_ann) (Eq.mpr (wall_vc _ f p t w1 K) ?_)
  refine AlP.go H fun b w2 H => wnew_at H f p t (fun hb w3 H => ?_) fun hb bk w3 H => ?_
  · have e : allS ws f p t = (0, 0, 0, 1, ()) := if_pos hb
    rw [e] at k
    exact brP_pos rfl (StP.all 0 H rfl rfl rfl fun w4 H => EnP.go H fun w5 H => LdP.at 0 H rfl rfl (k ca w5 ⟨by omega, by omega⟩ (H.sub (List.sublist_cons_self _ _))))
  have e : allS ws f p t = (itS ws f p t 4).2.2 := if_neg (by rw [hb]; decide)
  rw [e] at k
  refine brP_neg rfl ⟨fun q _ w' => ∃ (i : Nat) (Ls : List (Nat × List Value)) (s : Option Addr × Nat × Nat) (xs : List Int) (ca' : Int), q + i = 4 ∧ i ≤ 3 ∧ (itS ws f p t i).2.1 ≠ -1 ∧ xs.length = i ∧ PIn Ls s xs ∧ (ca ≤ ca' ∧ ca' ≤ ca + i) ∧
      At [] w0 w' ((bk, wcs (itS ws f p t i).1 p t (itS ws f p t i).2.1 (itS ws f p t i).2.2 s) :: (bm, mcs bw n c ca' la) :: (bw, flat eW ws ++ rest) :: (Ls ++ ((b, [.int .i64 0, .int .i64 0, .int .i64 0, .int .i64 0]) :: L0))), ⟨4, fun w4 h4 => ⟨0, [], (none, 0, 0), [], ca, rfl, by decide, (show (3 : Int) ≠ -1 by decide), rfl, .inl ⟨rfl, rfl, rfl⟩, ⟨by omega, by omega⟩, (H.ext h4).perm ?_⟩⟩, ?_⟩
  · exact .cons _ (List.perm_append_comm (l₁ := [(bm, mcs bw n c ca la), (bw, flat eW ws ++ rest)]) (l₂ := [(b, [.int .i64 0, .int .i64 0, .int .i64 0, .int .i64 0])]) |>.append_right L0)
  clear H
  rintro q u w4 ⟨i, Ls, s, xs, ca', hq, hi3, hl, hxl, hP, hcc, H⟩
  dsimp only
  refine wstep_at H hP (by omega) hn h0 hW hl fun w5 Ls' s' hP' H => ?_
  have es : stepS ws p t ((itS ws f p t i).1, (itS ws f p t i).2.1, (itS ws f p t i).2.2) = itS ws f p t (i + 1) := rfl
  rw [es] at H ⊢
  have hup := up_le (ws := ws) (i := atI (itS ws f p t i).1 p (itS ws f p t i).2.1) (ca := ca') (k := ca') ⟨by omega, Int.le_refl _⟩ (by omega)
  have hup2 : ca' ≤ upM ws (atI (itS ws f p t i).1 p (itS ws f p t i).2.1) ca' := by
    unfold upM
    split
    · rw [addI_i64 (by omega) (by omega)]; omega
    · exact Int.le_refl _
  by_cases hd : (itS ws f p t (i + 1)).2.1 = -1
  · have e4 : itS ws f p t 4 = itS ws f p t (i + 1) := by
      have := it_stop hd (4 - (i + 1))
      rw [show i + 1 + (4 - (i + 1)) = 4 by omega] at this
      exact this
    rw [e4] at k
    generalize itS ws f p t (i + 1) = y at H hd k
    obtain ⟨y0, y1, ⟨y2, y3, y4, y5, yu⟩⟩ := y
    refine brP_neg (by rw [hd]; rfl) ⟨rfl, rfl, LdP.atA (x := (y2, y3, y4, y5, ())) 0 H rfl rfl ?_⟩
    have H := H.perm (L' := (b, [.int .i64 0, .int .i64 0, .int .i64 0, .int .i64 0]) :: ((bk, wcs y0 p t y1 (y2, y3, y4, y5, ()) s') :: (bm, mcs bw n c (upM ws (atI (itS ws f p t i).1 p (itS ws f p t i).2.1) ca') la) :: (bw, flat eW ws ++ rest) :: (Ls' ++ L0))) (by
      refine (List.perm_middle (l₁ := [(bk, wcs y0 p t y1 (y2, y3, y4, y5, ()) s'), (bm, mcs bw n c (upM ws (atI (itS ws f p t i).1 p (itS ws f p t i).2.1) ca') la), (bw, flat eW ws ++ rest)] ++ Ls') (a := (b, [.int .i64 0, .int .i64 0, .int .i64 0, .int .i64 0])) (l₂ := L0)).symm)
    refine StP.all 0 H rfl rfl rfl fun w6 H => EnP.go H fun w7 H => LdP.at 0 H rfl rfl (k (upM ws (atI (itS ws f p t i).1 p (itS ws f p t i).2.1) ca') w7 ⟨by omega, by omega⟩ ?_)
    have H := (H.sub (List.sublist_cons_self _ _)).sub (List.sublist_cons_self _ _)
    exact H.sub (.cons_cons _ (.cons_cons _ (List.sublist_append_right _ _)))
  · have hlv := (it_lv ws f p t (i + 1)).resolve_left hd
    refine brP_pos (by simp [hd]) fun w6 h6 => ⟨q - 1, by omega, i + 1, Ls', s', xs ++ [(itS ws f p t i).1], _, by omega, hlv.2, hd, by rw [List.length_append, hxl]; rfl, hP', ⟨by omega, by omega⟩, H.ext h6⟩
end
end Go.Proofs.Ytffnfcokgemgjaa
