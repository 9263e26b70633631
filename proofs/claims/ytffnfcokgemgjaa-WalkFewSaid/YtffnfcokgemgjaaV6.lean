import Derived.Test.YtffnfcokgemgjaaV5
namespace Go.Proofs.Ytffnfcokgemgjaa
set_option linter.unusedSimpArgs false
set_option linter.unusedVariables false
set_option maxRecDepth 100000
open Go.RX
def PIn (Ls : List (Nat × List Value)) (s : Option Addr × Nat × Nat) (xs : List Int) : Prop :=
  (s = (none, 0, 0) ∧ xs = [] ∧ Ls = []) ∨ ∃ bs c rest, s = (some ⟨bs, 0, none⟩, xs.length, c) ∧ Ls = [(bs, flat eI xs ++ rest)] ∧ (flat eI xs ++ rest).length = c * stride eI ∧ xs.length ≤ c
def okW (ws : List Int) : Prop := ∀ x ∈ ws, 0 ≤ x ∧ x < 18446744073709551616
def stepS (ws : List Int) (pg wt : Int) (x : Int × Int × FT) : Int × Int × FT :=
  if x.2.1 = -1 then x
  else if (!okV (B (ldV ws (atI x.1 pg x.2.1))).toNat || ldE ws (atI x.1 pg x.2.1) != 0) = true then (x.1, -1, endF x.2.1 11)
  else tookS x.1 pg wt x.2.1 x.2.2 (prP (B (ldV ws (atI x.1 pg x.2.1))).toNat) (prR (B (ldV ws (atI x.1 pg x.2.1))).toNat) (prL (B (ldV ws (atI x.1 pg x.2.1))).toNat) (prF (B (ldV ws (atI x.1 pg x.2.1))).toNat)
theorem ld_rng {ws : List Int} (h : okW ws) (i : Int) : 0 ≤ ldV ws i ∧ ldV ws i < 18446744073709551616 := by
  unfold ldV
  split
  · rename_i hi
    rw [inM_iff] at hi
    rw [List.getD_eq_getElem?_getD, List.getElem?_eq_getElem (by omega)]
    exact h _ (List.getElem_mem _)
  · exact ⟨by decide, by decide⟩
section
variable {D G : List Nat} {w0 w : World} {L L0 Ls : List (Nat × List Value)} {bk bm bw n c : Nat} {ca la fr pg wt lv : Int} {fd : FT} {s : Option Addr × Nat × Nat} {ws xs : List Int} {rest : List Value}
theorem wnext_ok (hb : Blk w bk (wcs fr pg wt lv fd s)) (hl : lv ≠ -1) : CallsR Try.prog 15 (.el (.agg sA)) [.pointer (some ⟨bk, 0, none⟩)] w (fun x w' => x = (1, atI fr pg lv, 0, 0, ()) ∧ Ext w w') := by
  refine rxFnR_ok (C := M1) (ann := fun _ => []) (Eq.mpr (wnext_vc _ w _) ?_)
  have H := At.start [] w
  refine AlP.go H fun b w2 H => ⟨fun _ => rfl, fun _ => rfl, LdP.oldA H hb (by simp) rfl ⟨fun _ => rfl, fun _ => rfl, LdP.oldA H hb (by simp) rfl (brP_neg (by simp [hl]) ?_)⟩⟩
  refine ⟨rfl, rfl, LdP.oldA H hb (by simp) rfl ⟨rfl, rfl, LdP.oldA H hb (by simp) rfl ⟨rfl, rfl, LdP.oldA H hb (by simp) rfl ⟨trivial, StP.all 0 H rfl rfl rfl fun w3 H => EnP.go H fun w4 H => LdP.at 0 H rfl rfl ⟨rfl, H.all⟩⟩⟩⟩⟩
theorem wstep_done (H : AtD D G w0 w L) (j : Nat) (hk : L[j]? = some (bk, wcs fr pg wt (-1) fd s)) (m : Option Addr) {K : Bool → World → Prop} (k : ∀ w2, AtD D G w0 w2 L → K true w2) :
    CaP Try.prog 14 (.el (.one .bool)) [.pointer (some ⟨bk, 0, none⟩), .pointer m] w K := by
  refine CaP.go H fun w1 H => rxFn_ok (C := M1) (ann := fun _ => []) (Eq.mpr (wstep_vc _ m w1 K) ?_)
  exact ⟨fun _ => rfl, fun _ => rfl, LdP.atA j H hk rfl (brP_neg rfl ⟨rfl, rfl, LdP.atA j H hk rfl (brP_pos rfl (EnP.go H fun w2 H => k w2 H))⟩)⟩
theorem wstep_at (H : At G w0 w ((bk, wcs fr pg wt lv fd s) :: (bm, mcs bw n c ca la) :: (bw, flat eW ws ++ rest) :: (Ls ++ L0))) (hp : PIn Ls s xs) (hx : xs.length ≤ 1000) (hn : n = ws.length) (h0 : 0 < n) (hW : okW ws) (hl : lv ≠ -1) {K : Bool → World → Prop}
    (k : ∀ w2 Ls' s', PIn Ls' s' (xs ++ [fr]) → At G w0 w2 ((bk, wcs (stepS ws pg wt (fr, lv, fd)).1 pg wt (stepS ws pg wt (fr, lv, fd)).2.1 (stepS ws pg wt (fr, lv, fd)).2.2 s') :: (bm, mcs bw n c (upM ws (atI fr pg lv) ca) la) :: (bw, flat eW ws ++ rest) :: (Ls' ++ L0)) → K ((stepS ws pg wt (fr, lv, fd)).2.1 == -1) w2) :
    CaP Try.prog 14 (.el (.one .bool)) [.pointer (some ⟨bk, 0, none⟩), .pointer (some ⟨bm, 0, none⟩)] w K := by
  refine CaP.go H fun w1 H => rxFn_ok (C := M1) (ann := fun _ => []) (Eq.mpr (wstep_vc _ _ w1 K) ?_)
  refine ⟨fun _ => rfl, fun _ => rfl, LdP.atA 0 H rfl rfl (brP_neg rfl ⟨rfl, rfl, LdP.atA 0 H rfl rfl (brP_neg (by simp [hl]) ?_)⟩)⟩
  refine ⟨(1, atI fr pg lv, 0, 0, ()), QCalls.of (s := .el (.agg sA)) fun w' h' => wnext_ok ((H.get (i := 0) rfl).ext h') hl, ?_⟩
  refine do_at H rfl 1 2 rfl rfl (by decide) hn h0 (atI fr pg lv) 0 0 fun w2 H => ?_
  refine AlP.go H fun b w3 H => StP.all 0 H rfl rfl rfl fun w4 H => ⟨rfl, rfl, LdP.atA 1 H rfl rfl ⟨rfl, rfl, LdP.atA 1 H rfl rfl (AlP.go H fun b1 w5 H => fun w6 h6 => ?_)⟩⟩
  have H := H.ext h6
  dsimp only at H ⊢
  generalize hv : ldV ws (atI fr pg lv) = v at H ⊢
  generalize he : ldE ws (atI fr pg lv) = er at H ⊢
  have hvr : 0 ≤ v ∧ v < 18446744073709551616 := by rw [← hv]; exact ld_rng hW _
  have H : At G w0 w6 ([(b1, cellsOf eI fr)] ++ ([(b, [.int .u64 v, .bool false, .int .i64 er]), (bk, wcs fr pg wt lv fd s), (bm, mcs bw n c (upM ws (atI fr pg lv) ca) la), (bw, flat eW ws ++ rest)] ++ (Ls ++ L0))) := H
  have H := H.perm (L' := (b1, cellsOf eI fr) :: (Ls ++ ([(b, [.int .u64 v, .bool false, .int .i64 er]), (bk, wcs fr pg wt lv fd s), (bm, mcs bw n c (upM ws (atI fr pg lv) ca) la), (bw, flat eW ws ++ rest)] ++ L0))) (.cons _ (by
    rw [← List.append_assoc, ← List.append_assoc]
    exact List.Perm.append_right _ List.perm_append_comm))
  refine AtD.grow H hp rfl rfl rfl (by omega) fun bs c' rest' w7 hlen hle H => ⟨rfl, rfl, StP.oneA 2 H rfl rfl rfl fun w8 H => ⟨rfl, LdP.atA 1 H rfl rfl ?_⟩⟩
  have hU : U (B v) = v := U_B' hvr.1 hvr.2
  refine ⟨hU, AlP.go H fun b2 w9 H => StP.all 0 H rfl rfl rfl fun w10 H => ⟨fun _ => rfl, LdP.atA 2 H rfl rfl ?_⟩⟩
  have hS : stepS ws pg wt (fr, lv, fd) = if (!okV (B v).toNat || er != 0) = true then (fr, -1, endF lv 11) else tookS fr pg wt lv fd (prP (B v).toNat) (prR (B v).toNat) (prL (B v).toNat) (prF (B v).toNat) := by
    unfold stepS
    simp only [hv, he]
    rw [if_neg hl]
  have hs' : PIn [(bs, flat eI (xs ++ [fr]) ++ rest')] (some ⟨bs, 0, none⟩, xs.length + 1, c') (xs ++ [fr]) := .inr ⟨bs, c', rest', by rw [List.length_append]; rfl, rfl, hlen, by rw [List.length_append]; exact hle⟩
  have out : ∀ {w : World} {x y : Nat × List Value} {l : List Value}, At G w0 w (x :: (bs, flat eI (xs ++ [fr]) ++ rest') :: y :: (bk, l) :: (bm, mcs bw n c (upM ws (atI fr pg lv) ca) la) :: (bw, flat eW ws ++ rest) :: L0) → At G w0 w ((bk, l) :: (bm, mcs bw n c (upM ws (atI fr pg lv) ca) la) :: (bw, flat eW ws ++ rest) :: ([(bs, flat eI (xs ++ [fr]) ++ rest')] ++ L0)) := fun {w x y l} H => by
    have H := H.sub (List.sublist_cons_self _ _)
    have H := H.sub (L' := [(bs, flat eI (xs ++ [fr]) ++ rest')] ++ ([(bk, l), (bm, mcs bw n c (upM ws (atI fr pg lv) ca) la), (bw, flat eW ws ++ rest)] ++ L0)) (.cons_cons _ (List.sublist_cons_self _ _))
    refine H.perm ?_
    refine List.Perm.trans (l₂ := [(bk, l), (bm, mcs bw n c (upM ws (atI fr pg lv) ca) la), (bw, flat eW ws ++ rest)] ++ ([(bs, flat eI (xs ++ [fr]) ++ rest')] ++ L0)) (.refl _) ?_
    rw [← List.append_assoc, ← List.append_assoc]
    exact List.Perm.append_right _ List.perm_append_comm
  refine brP_intro (fun c1 => ?_) (fun c1 => LdP.at 0 H rfl rfl ?_)
  · rw [hS, if_pos c1] at k
    exact wend_at H 3 rfl 0 0 0 11 fun w11 H => EnP.go H fun w12 H => k w12 _ _ hs' (out H)
  · rw [hS, if_neg (by rw [c1]; decide)] at k
    refine took_at H 3 rfl _ _ _ _ fun w11 H => ⟨rfl, rfl, LdP.atA 3 H rfl rfl (EnP.go H fun w12 H => k w12 _ _ hs' (out H))⟩
theorem wres_ok (hb : Blk w bk (wcs fr pg wt lv fd s)) : CallsR Try.prog 13 (.tup [.agg sF, .one .bool]) [.pointer (some ⟨bk, 0, none⟩)] w (fun x w' => x = (if lv = -1 then (fd, true, ()) else ((0, 0, 0, 0, ()), false, ())) ∧ Ext w w') := by
  obtain ⟨f0, f1, f2, f3, fu⟩ := fd
  refine rxFnR_ok (C := M1) (ann := fun _ => []) (Eq.mpr (wres_vc _ w _) ?_)
  have H := At.start [] w
  refine AlP.go H fun b w2 H => ⟨fun _ => rfl, fun _ => rfl, LdP.oldA H hb (by simp) rfl ⟨fun _ => rfl, fun _ => rfl, LdP.oldA H hb (by simp) rfl (brP_intro (fun c => ?_) (fun c => ?_))⟩⟩
  · have hl : lv ≠ -1 := by simpa using c
    rw [if_neg hl]
    exact StP.all 0 H rfl rfl rfl fun w3 H => EnP.go H fun w4 H => LdP.at 0 H rfl rfl ⟨rfl, H.all⟩
  · have hl : lv = -1 := by simpa using c
    rw [if_pos hl]
    refine ⟨rfl, rfl, LdP.oldA (x := (f0, f1, f2, f3, ())) H hb (by simp) rfl ?_⟩
    exact StP.all 0 H rfl rfl rfl fun w3 H => EnP.go H fun w4 H => LdP.at 0 H rfl rfl ⟨rfl, H.all⟩
def badW (f p t : Int) : Bool := decide (atI f p 3 < 0) || decide (t < 0) || decide (t > 7)
theorem wnew_at (H : AtD D G w0 w L) (f p t : Int) {K : Option Addr → World → Prop} (hb : badW f p t = true → ∀ w1, AtD D G w0 w1 L → K none w1)
    (hg : badW f p t = false → ∀ bk w1, AtD D G w0 w1 ((bk, wcs f p t 3 (0, 0, 0, 0, ()) (none, 0, 0)) :: L) → K (some ⟨bk, 0, none⟩) w1) :
    CaP Try.prog 17 (.el (.one .ptr)) [.int .i64 f, .int .i64 p, .int .i64 t] w K := by
  refine CaP.go H fun w1 H => rxFn_ok (C := M1) (ann := fun _ => []) (Eq.mpr (wnew_vc f p t w1 K) ?_)
  refine AlP.go H fun b w2 H => ⟨trivial, brP_intro (fun c => EnP.go H fun w3 H => hb c w3 (H.sub (List.sublist_cons_self _ _))) (fun c => EnP.go H fun w3 H => hg c b w3 H)⟩
end
end Go.Proofs.Ytffnfcokgemgjaa
