import Derived.Test.YtogndkmclingeaaO6
namespace Go.Proofs.Ytogndkmclingeaa
set_option linter.unusedSimpArgs false
set_option linter.unusedVariables false
open Go.RX
/-! ### The document's pool -/
theorem rdf_flat {w : World} {b : Nat} {e : List Sc} {xs : List (ScsT e)} {rest : List Value} (h : Blk w b (flat (.agg e) xs ++ rest)) {i : Nat} {x : ScsT e} (hx : xs[i]? = some x) {j : Nat} {s : Sc} {y : s.T} (hj : j < e.length) (hy : (scsEmb e x)[j]? = some (s.emb y)) :
    rdAt w (addP (addP (some ⟨b, 0, none⟩) (i * e.length)) j) (.one s) y := rdAt_fld (rd_flat (e := .agg e) h hx) hj hy
section
variable {D G : List Nat} {w0 w : World} {L : List (Nat × List Value)}
theorem rpnew_at (H : AtD D G w0 w L) (n : Int) {K : Option Addr × Int × Unit → World → Prop} (hb : n < 1 ∨ n > 4096 → ∀ bp w1, AtD D G w0 w1 ((bp, [.slice none 0 0]) :: L) → K (some ⟨bp, 0, none⟩, 1, ()) w1)
    (hg : 1 ≤ n → n ≤ 4096 → ∀ bp bf w1, AtD D G w0 w1 ((bp, [.slice (some ⟨bf, 0, none⟩) n.toNat n.toNat]) :: (bf, flat eD (List.replicate n.toNat zD) ++ []) :: L) → K (some ⟨bp, 0, none⟩, 0, ()) w1) :
    CaP Try.prog 19 (.tup [.one .ptr, .one (.int .i64)]) [.int .i64 n] w K := by
  refine CaP.go H fun w1 H => rxFn_ok (C := E0) (ann := fun _ => []) (Eq.mpr (rpnew_vc n w1 K) ?_)
  refine brP_intro (fun c => AlP.go H fun bp w2 H => EnP.go H fun w2 H => hb (by simpa using c) bp w2 H) (fun c => ?_)
  have h1 : 1 ≤ n ∧ n ≤ 4096 := by simp only [Bool.or_eq_false_iff, decide_eq_false_iff_not] at c; omega
  refine MkP.go H rfl (by omega) (by omega) (by omega) (by omega) fun bf w2 H => ?_
  rw [zD_flat] at H
  exact AlP.go H fun bp w3 H => EnP.go H fun w4 H => hg h1.1 h1.2 bp bf w4 H
end
theorem rturn_ok {w : World} {bp bf n c : Nat} {ds : List DT} {rest : List Value} (hp : Blk w bp [.slice (some ⟨bf, 0, none⟩) n c]) (hf : Blk w bf (flat eD ds ++ rest)) (hne : bp ≠ bf) (hn : n = ds.length) (hpos : 0 < n) (f : Int) (k o : Int) :
    CallsR Try.prog 22 (.el (.one (.int .i64))) [.pointer (some ⟨bp, 0, none⟩), .int .i64 f, .int .i64 k, .int .i64 o] w
      (fun e w' => e = chE ds f (turnG k o) ∧ Blk w' bf (flat eD (chL ds f (turnG k o)) ++ rest) ∧ Fr [bf] w w') := by
  subst hn
  refine rxFn_ok (C := E0) (ann := fun _ => []) (Eq.mpr (rturn_vc _ f k o w _) ?_)
  have H := At.start1 hf
  have hp' : bp ∉ [bf] := by simpa using hne
  refine ⟨fun _ => rfl, fun _ => rfl, LdP.oldA H hp hp' rfl (brP_intro (fun c1 => EnP.go H fun w1 H => ?_) (fun c1 => ?_))⟩
  · have h1 : f < 0 ∨ f ≥ ds.length := by simpa using c1
    exact ⟨(chE_out (by omega) h1 _).symm, by rw [chL_out h1]; exact H.get (i := 0) rfl, H.fr⟩
  · have h1 : 0 ≤ f ∧ f < ds.length := by simp only [Bool.or_eq_false_iff, decide_eq_false_iff_not] at c1; omega
    have hlt : f.toNat < ds.length := by omega
    have hget : ds[f.toNat]? = some ds[f.toNat] := List.getElem?_eq_getElem hlt
    have hgd : ds.getD f.toNat zD = ds[f.toNat] := by rw [List.getD_eq_getElem?_getD, hget]; rfl
    have hE := chE_in h1 (turnG k o)
    have hL := chL_in h1 (turnG k o)
    rw [hgd] at hE hL
    generalize hd : ds[f.toNat] = d at *
    refine ⟨rfl, rfl, LdP.oldA H hp hp' rfl ⟨⟨rfl, h1.1, h1.2⟩, LdP.of d (rd_flat (H.get (i := 0) rfl) hget) ⟨trivial, ?_⟩⟩⟩
    refine AlP.go H fun b w2 H => StP.all 0 H rfl rfl rfl fun w2 H => brP_intro (fun c2 => ⟨rfl, rfl, LdP.oldA H hp hp' rfl (LdP.at 0 H rfl rfl ⟨⟨rfl, h1.1, h1.2⟩, ?_⟩)⟩) (fun c2 => EnP.go H fun w3 H => ?_)
    · have c2' : ((turnG k o) d).2 = 0 := beq_iff_eq.1 c2
      refine StP.flat (e := eD) 1 H (xs := ds) (rest := rest) ((turnG k o) d).1 rfl rfl rfl hlt fun w3 H => EnP.go H fun w4 H => ?_
      exact ⟨hE.symm, by rw [hL, if_pos c2']; exact H.get (i := 1) rfl, H.fr⟩
    · have c2' : ¬ ((turnG k o) d).2 = 0 := beq_eq_false_iff_ne.1 c2
      exact ⟨hE.symm, by rw [hL, if_neg c2']; exact H.get (i := 1) rfl, H.fr⟩
theorem rpref_ok {w : World} {bp bf n c : Nat} {ds : List DT} {rest : List Value} (hp : Blk w bp [.slice (some ⟨bf, 0, none⟩) n c]) (hf : Blk w bf (flat eD ds ++ rest)) (hne : bp ≠ bf) (hn : n = ds.length) (hpos : 0 < n) (f : Int) (x : Int) (hi : -9223372036854775808 ≤ x ∧ x < 9223372036854775808) :
    CallsR Try.prog 23 (.el (.one (.int .i64))) [.pointer (some ⟨bp, 0, none⟩), .int .i64 f, .int .i64 x] w
      (fun e w' => e = chE ds f (refG x) ∧ Blk w' bf (flat eD (chL ds f (refG x)) ++ rest) ∧ Fr [bf] w w') := by
  subst hn
  refine rxFn_ok (C := E0) (ann := fun _ => []) (Eq.mpr (rpref_vc _ f x w _) ?_)
  have H := At.start1 hf
  have hp' : bp ∉ [bf] := by simpa using hne
  refine ⟨fun _ => rfl, fun _ => rfl, LdP.oldA H hp hp' rfl (brP_intro (fun c1 => EnP.go H fun w1 H => ?_) (fun c1 => ?_))⟩
  · have h1 : f < 0 ∨ f ≥ ds.length := by simpa using c1
    exact ⟨(chE_out (by omega) h1 _).symm, by rw [chL_out h1]; exact H.get (i := 0) rfl, H.fr⟩
  · have h1 : 0 ≤ f ∧ f < ds.length := by simp only [Bool.or_eq_false_iff, decide_eq_false_iff_not] at c1; omega
    have hlt : f.toNat < ds.length := by omega
    have hget : ds[f.toNat]? = some ds[f.toNat] := List.getElem?_eq_getElem hlt
    have hgd : ds.getD f.toNat zD = ds[f.toNat] := by rw [List.getD_eq_getElem?_getD, hget]; rfl
    have hE := chE_in h1 (refG x)
    have hL := chL_in h1 (refG x)
    rw [hgd] at hE hL
    generalize hd : ds[f.toNat] = d at *
    refine ⟨rfl, rfl, LdP.oldA H hp hp' rfl ⟨⟨rfl, h1.1, h1.2⟩, LdP.of d (rd_flat (H.get (i := 0) rfl) hget) ⟨hi, ?_⟩⟩⟩
    refine AlP.go H fun b w2 H => StP.all 0 H rfl rfl rfl fun w2 H => brP_intro (fun c2 => ⟨rfl, rfl, LdP.oldA H hp hp' rfl (LdP.at 0 H rfl rfl ⟨⟨rfl, h1.1, h1.2⟩, ?_⟩)⟩) (fun c2 => EnP.go H fun w3 H => ?_)
    · have c2' : ((refG x) d).2 = 0 := beq_iff_eq.1 c2
      refine StP.flat (e := eD) 1 H (xs := ds) (rest := rest) ((refG x) d).1 rfl rfl rfl hlt fun w3 H => EnP.go H fun w4 H => ?_
      exact ⟨hE.symm, by rw [hL, if_pos c2']; exact H.get (i := 1) rfl, H.fr⟩
    · have c2' : ¬ ((refG x) d).2 = 0 := beq_eq_false_iff_ne.1 c2
      exact ⟨hE.symm, by rw [hL, if_neg c2']; exact H.get (i := 1) rfl, H.fr⟩
theorem rgive_ok {w : World} {bp bf n c : Nat} {ds : List DT} {rest : List Value} (hp : Blk w bp [.slice (some ⟨bf, 0, none⟩) n c]) (hf : Blk w bf (flat eD ds ++ rest)) (hne : bp ≠ bf) (hn : n = ds.length) (hpos : 0 < n) (f : Int) :
    CallsR Try.prog 21 (.el (.one (.int .i64))) [.pointer (some ⟨bp, 0, none⟩), .int .i64 f] w (fun e w' => e = chE ds f (turnG 0 0) ∧ Blk w' bf (flat eD (chL ds f (turnG 0 0)) ++ rest) ∧ Fr [bf] w w') := by
  refine rxFn_ok (C := E0) (ann := fun _ => []) (Eq.mpr (rgive_vc _ f w _) ?_)
  have H := At.start1 hf
  have hp' : bp ∉ [bf] := by simpa using hne
  refine CaP.mod1 H 0 rfl (fun w3 H => rturn_ok (H.old hp hp') (H.get (i := 0) rfl) hne hn hpos f 0 0) fun w3 H => EnP.go H fun w4 H => ?_
  exact ⟨rfl, H.get (i := 0) rfl, H.fr⟩
theorem rtake_ok {w : World} {bp bf n c : Nat} {ds : List DT} {rest : List Value} (hp : Blk w bp [.slice (some ⟨bf, 0, none⟩) n c]) (hf : Blk w bf (flat eD ds ++ rest)) (hne : bp ≠ bf) (hn : n = ds.length) (hpos : 0 < n) (hlen : n ≤ 4096) (k o : Int) :
    CallsR Try.prog 20 (.tup [.one (.int .i64), .one (.int .i64)]) [.pointer (some ⟨bp, 0, none⟩), .int .i64 k, .int .i64 o] w
      (fun v w' => v = (takeF ds k o, takeE ds k o, ()) ∧ Blk w' bf (flat eD (takeL ds k o) ++ rest) ∧ Fr [bf] w w') := by
  subst hn
  refine rxFn_ok (C := E0) (ann := rtake_vc_ann) (Eq.mpr (rtake_vc _ k o w _) ?_)
  have hp' : bp ∉ [bf] := by simpa using hne
  refine ⟨fun n s w' => ∃ i : Nat, s.1 = i ∧ n + i = ds.length ∧ At [bf] w w' [(bf, flat eD ds ++ rest)] ∧ ∀ (j : Nat) d, j < i → ds[j]? = some d → d.1 ≠ 0, ⟨ds.length, fun w1 h1 => ⟨0, rfl, rfl, (At.start1 hf).ext h1, fun j d hj => absurd hj (by omega)⟩⟩, ?_⟩
  rintro n ⟨i', u⟩ w1 ⟨i, hi, hni, H, hj⟩
  simp only at hi
  subst hi
  refine ⟨rfl, rfl, LdP.oldA H hp hp' rfl (brP_intro (fun c => ?_) (fun c => ?_))⟩
  · have hlt : i < ds.length := by simp only [decide_eq_true_eq] at c; omega
    have hget : ds[i]? = some ds[i] := List.getElem?_eq_getElem hlt
    generalize hd : ds[i] = d at hget
    refine ⟨rfl, rfl, LdP.oldA H hp hp' rfl ⟨⟨rfl, Int.natCast_nonneg i, by simpa using c⟩, rfl, LdP.of d.1 (rdf_flat (e := sD) (H.get (i := 0) rfl) hget (by decide) rfl) (brP_intro (fun c2 => ?_) (fun c2 => ?_))⟩⟩
    · have hfr := free_some hget (by simpa using c2) hj
      refine CaP.mod1 H 0 rfl (fun w8 H => rturn_ok (H.old hp hp') (H.get (i := 0) rfl) hne rfl hpos _ k o) fun w8 H => ?_
      have eL : takeL ds k o = chL ds i (turnG k o) := by unfold takeL; rw [hfr]
      refine brP_intro (fun c => EnP.go H fun w9 H => ?_) (fun c => EnP.go H fun w9 H => ?_)
      · have hc : ¬ chE ds (i : Nat) (turnG k o) = 0 := by simpa using c
        refine ⟨?_, by rw [eL]; exact H.get (i := 0) rfl, H.fr⟩
        unfold takeF takeE; rw [hfr, if_neg (by omega)]; simp only [if_neg hc]
      · have hc : chE ds (i : Nat) (turnG k o) = 0 := by simpa using c
        refine ⟨?_, by rw [eL]; exact H.get (i := 0) rfl, H.fr⟩
        unfold takeF takeE; rw [hfr, if_neg (by omega)]; simp [hc]
    · refine fun w3 h3 => ⟨n - 1, by omega, i + 1, by rw [addI_i64 (by omega) (by omega)]; rfl, by omega, H.ext h3, fun j d' hji hd' => ?_⟩
      by_cases e : j = i
      · subst e; rw [hget] at hd'; cases hd'; simpa using c2
      · exact hj j d' (by omega) hd'
  · have hfr : freeI ds = none := free_none fun j d hd => hj j d (by have := (List.getElem?_eq_some_iff.1 hd).1; simp only [decide_eq_false_iff_not] at c; omega) hd
    refine EnP.go H fun w9 H => ⟨?_, ?_, H.fr⟩
    · unfold takeF takeE; rw [hfr, if_neg (by omega)]
    · have : takeL ds k o = ds := by unfold takeL; rw [hfr]
      rw [this]; exact H.get (i := 0) rfl
theorem rcount_ok {w : World} {bp bf n c : Nat} {ds : List DT} {rest : List Value} (hp : Blk w bp [.slice (some ⟨bf, 0, none⟩) n c]) (hf : Blk w bf (flat eD ds ++ rest)) (hn : n = ds.length) (hlen : n ≤ 4096) (v : Int) :
    CallsR Try.prog 26 (.el (.one (.int .i64))) [.pointer (some ⟨bp, 0, none⟩), .int .i64 v] w (fun x w' => x = (cntL ds v : Int) ∧ Ext w w') := by
  subst hn
  refine rxFn_ok (C := E0) (ann := rcount_vc_ann) (Eq.mpr (rcount_vc _ v w _) ?_)
  refine ⟨fun n s w' => ∃ i : Nat, s.1 = (cntL (ds.take i) v : Nat) ∧ s.2.1 = i ∧ n + i = ds.length ∧ At [] w w' [], ⟨ds.length, fun w1 h1 => ⟨0, rfl, rfl, rfl, (At.start [] w).ext h1⟩⟩, ?_⟩
  rintro n ⟨a, i', u⟩ w1 ⟨i, ha, hi, hni, H⟩
  simp only at hi ha
  subst hi; subst ha
  refine ⟨rfl, rfl, LdP.oldA H hp (by simp) rfl (brP_intro (fun c => ?_) (fun c => ?_))⟩
  · have hlt : i < ds.length := by simp only [decide_eq_true_eq] at c; omega
    have hget : ds[i]? = some ds[i] := List.getElem?_eq_getElem hlt
    generalize hd : ds[i] = d at hget
    have hle : cntL (ds.take i) v ≤ 4096 := Nat.le_trans List.countP_le_length (by rw [List.length_take]; omega)
    have e1 : addI .i64 ((i : Nat) : Int) 1 = ((i + 1 : Nat) : Int) := by rw [addI_i64 (by omega) (by omega)]; rfl
    have e2 : addI .i64 ((cntL (ds.take i) v : Nat) : Int) 1 = ((cntL (ds.take i) v + 1 : Nat) : Int) := by rw [addI_i64 (by omega) (by omega)]; rfl
    refine ⟨rfl, rfl, LdP.oldA H hp (by simp) rfl ⟨⟨rfl, Int.natCast_nonneg i, by simpa using c⟩, rfl, LdP.of d.1 (rdf_flat (e := sD) (H.old hf (by simp)) hget (by decide) rfl) (brP_intro (fun c2 => ?_) (fun c2 => ?_))⟩⟩
    · exact fun w3 h3 => ⟨n - 1, by omega, i + 1, by rw [e2, cnt_take hget, if_pos (by simpa using c2)], e1, by omega, H.ext h3⟩
    · exact fun w3 h3 => ⟨n - 1, by omega, i + 1, by rw [cnt_take hget, if_neg (by simpa using c2)]; rfl, e1, by omega, H.ext h3⟩
  · have hi : ds.length ≤ i := by simp only [decide_eq_false_iff_not] at c; omega
    refine EnP.go H fun w9 H => ⟨by rw [List.take_of_length_le hi], H.all⟩
theorem rowned_ok {w : World} {bp bf n c : Nat} {ds : List DT} {rest : List Value} (hp : Blk w bp [.slice (some ⟨bf, 0, none⟩) n c]) (hf : Blk w bf (flat eD ds ++ rest)) (hn : n = ds.length) (hlen : n ≤ 4096) (v : Int) :
    CallsR Try.prog 28 (.el (.one .slice)) [.pointer (some ⟨bp, 0, none⟩), .int .i64 v] w (fun r w' => Own w w' eI r ((ownL ds v).map fun i => ((i : Nat) : Int)) ∧ Ext w w') := by
  subst hn
  refine rxFn_ok (C := E0) (ann := rowned_vc_ann) (Eq.mpr (rowned_vc _ v w _) ?_)
  let iL : Nat → List Int := fun i => (ownL (ds.take i) v).map fun i => ((i : Nat) : Int)
  have hiL : ∀ i, (iL i).length ≤ 4096 := fun i => by
    simp only [iL, List.length_map]
    refine Nat.le_trans (List.length_filter_le _ _) ?_
    simp only [List.length_range, List.length_take]; omega
  refine ⟨fun n s w' => ∃ (i : Nat) (Ls : List (Nat × List Value)), s.2.1 = i ∧ n + i = ds.length ∧ At [] w w' (Ls ++ []) ∧ ((s.1 = (none, 0, 0) ∧ iL i = [] ∧ Ls = []) ∨ ∃ bs cs rs, s.1 = (some ⟨bs, 0, none⟩, (iL i).length, cs) ∧ Ls = [(bs, flat eI (iL i) ++ rs)] ∧ (flat eI (iL i) ++ rs).length = cs * stride eI ∧ (iL i).length ≤ cs),
    ⟨ds.length, fun w1 h1 => ⟨0, [], rfl, rfl, (At.start [] w).ext h1, .inl ⟨rfl, rfl, rfl⟩⟩⟩, ?_⟩
  rintro n ⟨s, i', u⟩ w1 ⟨i, Ls, hi, hni, H, hs⟩
  simp only at hi hs
  subst hi
  refine ⟨rfl, rfl, LdP.oldA H hp (by simp) rfl (brP_intro (fun c => ?_) (fun c => ?_))⟩
  · have hlt : i < ds.length := by simp only [decide_eq_true_eq] at c; omega
    have hget : ds[i]? = some ds[i] := List.getElem?_eq_getElem hlt
    generalize hd : ds[i] = d at hget
    have e1 : addI .i64 ((i : Nat) : Int) 1 = ((i + 1 : Nat) : Int) := by rw [addI_i64 (by omega) (by omega)]; rfl
    have hl := hiL i
    refine ⟨rfl, rfl, LdP.oldA H hp (by simp) rfl ⟨⟨rfl, Int.natCast_nonneg i, by simpa using c⟩, rfl, LdP.of d.2.1 (rdf_flat (e := sD) (H.old hf (by simp)) hget (by decide) rfl) (brP_intro (fun c2 => ?_) (fun c2 => ?_))⟩⟩
    · have e : iL (i + 1) = iL i ++ [((i : Nat) : Int)] := by simp only [iL, own_take hget, if_pos (show d.2.1 = v by simpa using c2), List.map_append, List.map_cons, List.map_nil]
      have hl' : (iL (i + 1)).length = (iL i).length + 1 := by rw [e]; simp
      refine AlP.go H fun b2 w5 H => fun w6 h6 => ?_
      refine AtD.grow (e := eI) (x := ((i : Nat) : Int)) (Ls := Ls) (L0 := []) (H.ext h6) hs rfl rfl rfl (by omega) fun bs cs rs w7 k1 k2 H w8 h8 => ?_
      refine ⟨n - 1, by omega, i + 1, [(bs, flat eI (iL (i + 1)) ++ rs)], e1, by omega, ?_, .inr ⟨bs, cs, rs, by rw [hl'], rfl, by rw [e]; exact k1, by rw [hl']; exact k2⟩⟩
      rw [e]; exact H.ext h8
    · have e : iL (i + 1) = iL i := by simp only [iL, own_take hget, if_neg (show ¬ d.2.1 = v by simpa using c2), List.append_nil]
      exact fun w3 h3 => ⟨n - 1, by omega, i + 1, Ls, e1, by omega, H.ext h3, by rw [e]; exact hs⟩
  · have hi : ds.length ≤ i := by simp only [decide_eq_false_iff_not] at c; omega
    refine EnP.go H fun w9 H => ⟨?_, H.all⟩
    have eL : iL i = (ownL ds v).map fun i => ((i : Nat) : Int) := by simp only [iL, List.take_of_length_le hi]
    rw [← eL]
    rcases hs with ⟨rfl, h2, rfl⟩ | ⟨bs, cs, rs, rfl, rfl, h3, h4⟩
    · rw [h2]; exact Own.nil _ _ _
    · refine ⟨rfl, h4, .inr ⟨bs, _, rfl, (H.own _ (List.mem_append_left _ (List.mem_singleton.2 rfl))).resolve_right (by simp), H.get (i := 0) rfl, h3, ?_⟩⟩
      rw [List.take_append_of_le_length (by rw [flat_length]; exact Nat.le_refl _), List.take_of_length_le (by rw [flat_length]; exact Nat.le_refl _)]
end Go.Proofs.Ytogndkmclingeaa
