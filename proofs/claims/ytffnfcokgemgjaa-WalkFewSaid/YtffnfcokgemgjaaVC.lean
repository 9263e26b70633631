import Derived.Test.YtffnfcokgemgjaaVB
namespace Go.Proofs.Ytffnfcokgemgjaa
set_option linter.unusedSimpArgs false
set_option linter.unusedVariables false
set_option maxRecDepth 100000
open Go.RX
/-! ### The document's walker -/
abbrev rcs (fr pg wt lv : Int) (dn : Bool) (fd : FT) (s : Option Addr × Nat × Nat) : List Value :=
  [.int .i64 fr, .int .i64 pg, .int .i64 wt, .int .i64 lv, .bool dn, .int .i64 fd.1, .int .i64 fd.2.1, .int .i64 fd.2.2.1, .int .i64 fd.2.2.2.1, .slice s.1 s.2.1 s.2.2]
section
variable {D G : List Nat} {w0 w : World} {L : List (Nat × List Value)} {bk : Nat} {fr pg wt lv : Int} {dn : Bool} {fd : FT} {s : Option Addr × Nat × Nat}
theorem rwend_at (H : AtD D G w0 w L) (j : Nat) (hk : L[j]? = some (bk, rcs fr pg wt lv dn fd s)) (e : Int) {K : Unit → World → Prop}
    (k : ∀ w2, AtD D G w0 w2 (L.set j (bk, rcs fr pg wt lv true (endF lv e) s)) → K () w2) :
    CaP Try.prog 38 (.tup []) [.pointer (some ⟨bk, 0, none⟩), .int .i64 e] w K := by
  refine CaP.go H fun w1 H => rxFn_ok (C := M1) (ann := fun _ => []) (Eq.mpr (rwend_vc _ e w1 K) ?_)
  have hjl : j < L.length := (List.getElem?_eq_some_iff.1 hk).1
  refine ⟨rfl, rfl, StP.oneA j H hk rfl rfl fun w2 H => ?_⟩
  have H : AtD D G w0 w2 (L.set j (bk, rcs fr pg wt lv true fd s)) := H
  have hk2 : (L.set j (bk, rcs fr pg wt lv true fd s))[j]? = some (bk, rcs fr pg wt lv true fd s) := List.getElem?_set_self hjl
  refine ⟨rfl, rfl, LdP.atA j H hk2 rfl ⟨rfl, rfl, ?_⟩⟩
  rw [addP_B]
  refine StP.at j H hk2 rfl (Nat.le_of_ble_eq_true rfl) fun w4 H => EnP.go H fun w5 H => k w5 ?_
  have e : (L.set j (bk, rcs fr pg wt lv true fd s)).set j (bk, rcs fr pg wt lv true (endF lv e) s) = L.set j (bk, rcs fr pg wt lv true (endF lv e) s) := List.set_set ..
  rw [← e]
  exact H
theorem rwin_at (H : AtD D G w0 w L) (j : Nat) (hk : L[j]? = some (bk, rcs fr pg wt lv dn fd s)) (f : Int) (ep : Bool) (er : Int) (el : Bool) (ef : Int) {K : Unit → World → Prop}
    (k : ∀ w2, AtD D G w0 w2 (L.set j (bk, rcs fr pg wt lv true (inF lv wt f ep er el ef) s)) → K () w2) :
    CaP Try.prog 40 (.tup []) [.pointer (some ⟨bk, 0, none⟩), .int .i64 f, .agg ⟨[.bool ep, .int .i64 er, .bool el, .int .i64 ef]⟩] w K := by
  refine CaP.go H fun w1 H => rxFn_ok (C := M1) (ann := fun _ => []) (Eq.mpr (rwin_vc _ f ep er el ef w1 K) ?_)
  have hjl : j < L.length := (List.getElem?_eq_some_iff.1 hk).1
  refine AlP.go H fun b w2 H => ?_
  have hk1 : ((b, [Value.bool ep, .int .i64 er, .bool el, .int .i64 ef]) :: L)[j + 1]? = some (bk, rcs fr pg wt lv dn fd s) := hk
  refine brP_intro (fun c => ?_) (fun c => ?_)
  · refine rwend_at H (j + 1) hk1 11 fun w3 H => EnP.go H fun w4 H => k w4 ?_
    have e : inF lv wt f ep er el ef = endF lv 11 := if_pos (by have := of_decide_eq_true c; omega)
    rw [e]; exact H.sub (List.sublist_cons_self _ _)
  have hf : ¬ f ≥ 4096 := by have := of_decide_eq_false c; omega
  refine ⟨rfl, rfl, StP.oneA (j + 1) H hk1 rfl rfl fun w3 H => ?_⟩
  have H : AtD D G w0 w3 ((b, [Value.bool ep, .int .i64 er, .bool el, .int .i64 ef]) :: L.set j (bk, rcs fr pg wt lv true fd s)) := H
  have hk2 : ((b, [Value.bool ep, .int .i64 er, .bool el, .int .i64 ef]) :: L.set j (bk, rcs fr pg wt lv true fd s))[j + 1]? = some (bk, rcs fr pg wt lv true fd s) := List.getElem?_set_self (l := L) hjl
  refine ⟨rfl, LdP.atA 0 H rfl rfl ⟨rfl, rfl, LdP.atA (j + 1) H hk2 rfl ⟨rfl, rfl, ?_⟩⟩⟩
  rw [addP_B]
  refine StP.at (j + 1) H hk2 rfl (Nat.le_of_ble_eq_true rfl) fun w4 H => ?_
  have e2 : (L.set j (bk, rcs fr pg wt lv true fd s)).set j (bk, rcs fr pg wt lv true (f, er, lv, 0, ()) s) = L.set j (bk, rcs fr pg wt lv true (f, er, lv, 0, ()) s) := List.set_set ..
  have H : AtD D G w0 w4 ((b, [Value.bool ep, .int .i64 er, .bool el, .int .i64 ef]) :: (L.set j (bk, rcs fr pg wt lv true fd s)).set j (bk, rcs fr pg wt lv true (f, er, lv, 0, ()) s)) := H
  rw [e2] at H
  have hk3 : ((b, [Value.bool ep, .int .i64 er, .bool el, .int .i64 ef]) :: L.set j (bk, rcs fr pg wt lv true (f, er, lv, 0, ()) s))[j + 1]? = some (bk, rcs fr pg wt lv true (f, er, lv, 0, ()) s) := List.getElem?_set_self (l := L) hjl
  refine LdP.at 0 H rfl rfl ⟨rfl, rfl, LdP.atA (j + 1) H hk3 rfl ⟨trivial, brP_intro (fun c2 => ?_) (fun c2 => ?_)⟩⟩
  · refine ⟨rfl, rfl, rfl, StP.one (j + 1) H hk3 rfl rfl fun w5 H => EnP.go H fun w6 H => k w6 ?_⟩
    have e : inF lv wt f ep er el ef = (f, er, lv, 7, ()) := by
      have c3 : allowsE ep er el ef wt = false := by simpa using c2
      unfold inF; rw [if_neg hf, c3]; rfl
    have e4 : (L.set j (bk, rcs fr pg wt lv true (f, er, lv, 0, ()) s)).set j (bk, rcs fr pg wt lv true (f, er, lv, 7, ()) s) = L.set j (bk, rcs fr pg wt lv true (f, er, lv, 7, ()) s) := List.set_set ..
    rw [e, ← e4]; exact H.sub (List.sublist_cons_self _ _)
  · refine EnP.go H fun w6 H => k w6 ?_
    have e : inF lv wt f ep er el ef = (f, er, lv, 0, ()) := by
      have c3 : allowsE ep er el ef wt = true := by simpa using c2
      unfold inF; rw [if_neg hf, if_pos c3]
    rw [e]; exact H.sub (List.sublist_cons_self _ _)
theorem rwstep_done (H : AtD D G w0 w L) (j : Nat) (hk : L[j]? = some (bk, rcs fr pg wt lv true fd s)) (m : Option Addr) {K : Bool → World → Prop} (k : ∀ w2, AtD D G w0 w2 L → K true w2) :
    CaP Try.prog 27 (.el (.one .bool)) [.pointer (some ⟨bk, 0, none⟩), .pointer m] w K := by
  refine CaP.go H fun w1 H => rxFn_ok (C := M1) (ann := fun _ => []) (Eq.mpr (rwstep_vc _ m w1 K) ?_)
  exact ⟨rfl, rfl, LdP.atA j H hk rfl (brP_pos rfl (EnP.go H fun w2 H => k w2 H))⟩
end
theorem prP_right {N : Nat} (h : okV N = true) : 0 ≤ prR N ∧ (prP N = false → prR N = 0) := by
  have h2 := okV_right h
  have hb := right_bd h2
  exact ⟨hb.1, fun hp => (hb.2.2.2.2 hp).1⟩
section
variable {G : List Nat} {w0 w : World} {L0 Ls : List (Nat × List Value)} {bk bm bw n c : Nat} {ca la fr pg wt lv : Int} {fd : FT} {s : Option Addr × Nat × Nat} {ws xs : List Int} {rest : List Value}
theorem rwstep_at (H : At G w0 w ((bk, rcs fr pg wt lv false fd s) :: (bm, mcs bw n c ca la) :: (bw, flat eW ws ++ rest) :: (Ls ++ L0))) (hp : PIn Ls s xs) (hx : xs.length ≤ 1000) (hn : n = ws.length) (hW : okW ws) (hl : 0 ≤ lv ∧ lv ≤ 3) {K : Bool → World → Prop}
    (kd : (stepS ws pg wt (fr, lv, fd)).2.1 = -1 → ∀ w2 Ls' s', PIn Ls' s' (xs ++ [fr]) → At G w0 w2 ((bk, rcs (stepS ws pg wt (fr, lv, fd)).1 pg wt lv true (stepS ws pg wt (fr, lv, fd)).2.2 s') :: (bm, mcs bw n c (upM ws (atI fr pg lv) ca) la) :: (bw, flat eW ws ++ rest) :: (Ls' ++ L0)) → K true w2)
    (kn : (stepS ws pg wt (fr, lv, fd)).2.1 ≠ -1 → ∀ w2 Ls' s', PIn Ls' s' (xs ++ [fr]) → At G w0 w2 ((bk, rcs (stepS ws pg wt (fr, lv, fd)).1 pg wt (stepS ws pg wt (fr, lv, fd)).2.1 false (stepS ws pg wt (fr, lv, fd)).2.2 s') :: (bm, mcs bw n c (upM ws (atI fr pg lv) ca) la) :: (bw, flat eW ws ++ rest) :: (Ls' ++ L0)) → K false w2) :
    CaP Try.prog 27 (.el (.one .bool)) [.pointer (some ⟨bk, 0, none⟩), .pointer (some ⟨bm, 0, none⟩)] w K := by
  refine CaP.go H fun w1 H => rxFn_ok (C := M1) (ann := fun _ => []) (Eq.mpr (rwstep_vc _ _ w1 K) ?_)
  refine ⟨rfl, rfl, LdP.atA 0 H rfl rfl (brP_neg rfl ⟨rfl, rfl, LdP.atA 0 H rfl rfl ⟨rfl, rfl, LdP.atA 0 H rfl rfl (AlP.go H fun b1 w5 H => fun w6 h6 => ?_)⟩⟩)⟩
  have H := H.ext h6
  dsimp only at H ⊢
  have H : At G w0 w6 ([(b1, cellsOf eI fr)] ++ ([(bk, rcs fr pg wt lv false fd s), (bm, mcs bw n c ca la), (bw, flat eW ws ++ rest)] ++ (Ls ++ L0))) := H
  have H := H.perm (L' := (b1, cellsOf eI fr) :: (Ls ++ ([(bk, rcs fr pg wt lv false fd s), (bm, mcs bw n c ca la), (bw, flat eW ws ++ rest)] ++ L0))) (.cons _ (by
    rw [← List.append_assoc, ← List.append_assoc]
    exact List.Perm.append_right _ List.perm_append_comm))
  refine AtD.grow H hp rfl rfl rfl (by omega) fun bs c' rest' w7 hlen hle H => ⟨rfl, rfl, StP.oneA 1 H rfl rfl rfl fun w8 H => ⟨rfl, rfl, LdP.atA 1 H rfl rfl ⟨rfl, rfl, LdP.atA 1 H rfl rfl ⟨rfl, rfl, LdP.atA 1 H rfl rfl ⟨trivial, ?_⟩⟩⟩⟩⟩
  refine nload_at H 2 3 rfl rfl (by decide) hn (atI fr pg lv) fun w9 H => ?_
  dsimp only at H ⊢
  have hl1 : lv ≠ -1 := by omega
  generalize hv : ldV ws (atI fr pg lv) = v at H ⊢
  generalize he : ldE ws (atI fr pg lv) = er at H ⊢
  have hvr : 0 ≤ v ∧ v < 18446744073709551616 := by rw [← hv]; exact ld_rng hW _
  have hU : U (B v) = v := U_B' hvr.1 hvr.2
  refine ⟨hU, AlP.go H fun b2 w9 H => StP.all 0 H rfl rfl rfl fun w10 H => ?_⟩
  have hS : stepS ws pg wt (fr, lv, fd) = if (er != 0 || !okV (B v).toNat) = true then (fr, -1, endF lv 11) else tookS fr pg wt lv fd (prP (B v).toNat) (prR (B v).toNat) (prL (B v).toNat) (prF (B v).toNat) := by
    unfold stepS
    simp only [hv, he]
    rw [if_neg hl1, Bool.or_comm]
  have hs' : PIn [(bs, flat eI (xs ++ [fr]) ++ rest')] (some ⟨bs, 0, none⟩, xs.length + 1, c') (xs ++ [fr]) := .inr ⟨bs, c', rest', by rw [List.length_append]; rfl, rfl, hlen, by rw [List.length_append]; exact hle⟩
  have out : ∀ {w : World} {x : Nat × List Value} {l : List Value}, At G w0 w (x :: (bs, flat eI (xs ++ [fr]) ++ rest') :: (bk, l) :: (bm, mcs bw n c (upM ws (atI fr pg lv) ca) la) :: (bw, flat eW ws ++ rest) :: L0) → At G w0 w ((bk, l) :: (bm, mcs bw n c (upM ws (atI fr pg lv) ca) la) :: (bw, flat eW ws ++ rest) :: ([(bs, flat eI (xs ++ [fr]) ++ rest')] ++ L0)) := fun {w x l} H => by
    have H := H.sub (List.sublist_cons_self _ _)
    refine H.perm ?_
    refine List.Perm.trans (l₂ := [(bk, l), (bm, mcs bw n c (upM ws (atI fr pg lv) ca) la), (bw, flat eW ws ++ rest)] ++ ([(bs, flat eI (xs ++ [fr]) ++ rest')] ++ L0)) (.refl _) ?_
    rw [← List.append_assoc]
    refine List.Perm.trans (l₂ := ([(bs, flat eI (xs ++ [fr]) ++ rest')] ++ [(bk, l), (bm, mcs bw n c (upM ws (atI fr pg lv) ca) la), (bw, flat eW ws ++ rest)]) ++ L0) ?_ (.refl _)
    exact List.Perm.append_right _ List.perm_append_comm
  refine brP_intro (fun c1 => ?_) (fun c1 => ⟨rfl, LdP.atA 0 H rfl rfl ?_⟩)
  · rw [hS, if_pos c1] at kd
    exact rwend_at H 2 rfl 11 fun w11 H => ⟨rfl, rfl, LdP.atA 2 H rfl rfl (EnP.go H fun w12 H => kd rfl w12 _ _ hs' (out H))⟩
  rw [hS, if_neg (by rw [c1]; decide)] at kd kn
  have hok : okV (B v).toNat = true := by
    rw [Bool.or_eq_false_iff] at c1
    simpa using c1.2
  obtain ⟨hr0, _⟩ := prP_right hok
  have hri := okV_right hok
  generalize prP (B v).toNat = ep at H kd kn hri ⊢
  generalize prR (B v).toNat = erx at H kd kn hri hr0 ⊢
  generalize prL (B v).toNat = el at H kd kn hri ⊢
  generalize prF (B v).toNat = ef at H kd kn hri ⊢
  unfold tookS at kd kn
  refine brP_intro (fun c2 => ?_) (fun c2 => ?_)
  · rw [if_pos c2] at kd
    exact rwend_at H 2 rfl 4 fun w11 H => ⟨rfl, rfl, LdP.atA 2 H rfl rfl (EnP.go H fun w12 H => kd rfl w12 _ _ hs' (out H))⟩
  rw [if_neg (by rw [c2]; decide)] at kd kn
  refine LdP.at 0 H rfl rfl ⟨trivial, fun _ => rfl, fun _ => rfl, LdP.atA 2 H rfl rfl (brP_intro (fun c3 => ?_) (fun c3 => ?_))⟩
  · rw [if_pos c3] at kn
    have hlv : lv > 0 := by
      have h : (tableE ep erx el ef && decide (lv > 0)) = true := c3
      rw [Bool.and_eq_true] at h
      exact of_decide_eq_true h.2
    refine ⟨rfl, LdP.atA 0 H rfl rfl ⟨rfl, rfl, StP.oneA 2 H rfl rfl rfl fun w11 H => ⟨rfl, rfl, LdP.atA 2 H rfl rfl ⟨rfl, rfl, StP.oneA 2 H rfl rfl rfl fun w12 H => ⟨rfl, rfl, LdP.atA 2 H rfl rfl (EnP.go H fun w13 H => ?_)⟩⟩⟩⟩⟩
    refine kn ?_ w13 _ _ hs' (out H)
    show subI .i64 lv 1 ≠ -1
    rw [subI_i64 (by omega) (by omega)]; omega
  have c3' : (tableE ep erx el ef && decide (lv > 0)) = false := c3
  rw [if_neg (by rw [c3']; decide)] at kd kn
  refine ⟨rfl, LdP.atA 0 H rfl rfl ⟨fun _ => rfl, fun _ => rfl, LdP.atA 2 H rfl rfl (brP_intro (fun c4 => ?_) (fun c4 => ?_))⟩⟩
  · have c4' : (el && lv == 1) = true := c4
    rw [if_pos c4'] at kd
    refine ⟨rfl, LdP.atA 0 H rfl rfl ⟨rfl, rfl, LdP.atA 2 H rfl rfl (LdP.at 0 H rfl rfl ?_)⟩⟩
    exact rwin_at H 2 rfl _ ep erx el ef fun w11 H => ⟨rfl, rfl, LdP.atA 2 H rfl rfl (EnP.go H fun w12 H => kd rfl w12 _ _ hs' (out H))⟩
  have c4' : (el && lv == 1) = false := c4
  rw [if_neg (by rw [c4']; decide)] at kd kn
  refine ⟨rfl, LdP.atA 0 H rfl rfl (LdP.at 0 H rfl rfl ⟨fun _ => trivial, fun _ => rfl, fun _ => rfl, LdP.atA 2 H rfl rfl (brP_intro (fun c5 => ?_) (fun c5 => ?_))⟩)⟩
  all_goals
    have hc5 : (!el && !tableE ep erx el ef && lv == 0) = (!el && decide (erx > 0) && lv == 0) := by
      have hep : ep = true := by simpa using c2
      subst hep
      have ht : tableE true erx el ef = (erx == 0) := by unfold tableE; rw [hri]; simp
      rw [ht]
      have : (!erx == 0) = decide (erx > 0) := by
        rcases Int.lt_or_eq_of_le hr0 with h | h
        · rw [decide_eq_true h]; simp; omega
        · rw [← h]; rfl
      rw [this]
  · rw [if_pos (hc5.symm.trans c5)] at kd
    refine ⟨rfl, LdP.atA 0 H rfl rfl (LdP.at 0 H rfl rfl ?_)⟩
    exact rwin_at H 2 rfl _ ep erx el ef fun w11 H => ⟨rfl, rfl, LdP.atA 2 H rfl rfl (EnP.go H fun w12 H => kd rfl w12 _ _ hs' (out H))⟩
  · rw [if_neg (by rw [← hc5, c5]; decide)] at kd
    exact rwend_at H 2 rfl 11 fun w11 H => ⟨rfl, rfl, LdP.atA 2 H rfl rfl (EnP.go H fun w12 H => kd rfl w12 _ _ hs' (out H))⟩
end
end Go.Proofs.Ytffnfcokgemgjaa
