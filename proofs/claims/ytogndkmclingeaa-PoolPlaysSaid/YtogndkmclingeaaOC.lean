import Derived.Test.YtogndkmclingeaaOB
namespace Go.Proofs.Ytogndkmclingeaa
set_option linter.unusedSimpArgs false
set_option linter.unusedVariables false
open Go.RX
def mon : DT := (2, 0, 0, 0, ())
theorem takes {ds : List DT} {f : Nat} {k o : Int} {d' : DT} (hf : freeI ds = some f) (hlt : f < ds.length) (hz : ds.getD f zD = zD) (ht : turnG k o zD = (d', 0)) :
    takeF ds k o = (f : Int) ∧ takeE ds k o = 0 ∧ takeL ds k o = ds.set f d' := by
  have h1 : (0 : Int) ≤ (f : Nat) ∧ ((f : Nat) : Int) < ds.length := by omega
  have e1 : chE ds (f : Nat) (turnG k o) = 0 := by
    rw [chE_in h1]; show (turnG k o (ds.getD f zD)).2 = 0; rw [hz, ht]
  have e2 : chL ds (f : Nat) (turnG k o) = ds.set f d' := by
    rw [chL_in h1]; show (if (turnG k o (ds.getD f zD)).2 = 0 then ds.set f (turnG k o (ds.getD f zD)).1 else ds) = _
    rw [hz, ht, if_pos rfl]
  refine ⟨?_, ?_, ?_⟩
  · unfold takeF; rw [hf]; simp [e1]
  · unfold takeE; rw [hf, if_neg (by omega)]; exact e1
  · unfold takeL; rw [hf]; exact e2
def mons (N i : Nat) : List DT := List.replicate i mon ++ List.replicate (N - i) zD
theorem mons_len {N i : Nat} (h : i ≤ N) : (mons N i).length = N := by unfold mons; simp; omega
theorem mons_at {N i : Nat} (h : i < N) : (mons N i)[i]? = some zD := by
  unfold mons
  rw [List.getElem?_append_right (by simp)]
  simp only [List.length_replicate, Nat.sub_self, List.getElem?_replicate]
  rw [if_pos (by omega)]
theorem mons_free {N i : Nat} (h : i < N) : freeI (mons N i) = some i := by
  refine free_some (mons_at h) rfl fun j d hj hd => ?_
  unfold mons at hd
  rw [List.getElem?_append_left (by simpa using hj), List.getElem?_replicate, if_pos hj] at hd
  cases hd
  decide
theorem mons_set {N i : Nat} (h : i < N) : (mons N i).set i mon = mons N (i + 1) := by
  unfold mons
  rw [List.set_append_right _ _ (by simp)]
  simp only [List.length_replicate, Nat.sub_self]
  rw [show N - i = (N - (i + 1)) + 1 by omega, List.replicate_succ (a := zD), List.set_cons_zero, List.replicate_succ' (a := mon), List.append_assoc]
  rfl
/-- A frame that is in use, and not referred to. -/
def used (d : DT) : Prop := d = mon ∨ ∃ o : Int, (1 ≤ o ∧ o ≤ 16) ∧ d = gst o 0
theorem used_kind {d : DT} (h : used d) : d.1 ≠ 0 := by
  rcases h with rfl | ⟨o, _, rfl⟩
  · decide
  · show (4 : Int) ≠ 0; decide
theorem used_give {d : DT} (h : used d) : turnG 0 0 d = (zD, 0) := by
  rcases h with rfl | ⟨o, ho, rfl⟩
  · decide +kernel
  · have hr := gst_right (o := o) (i := 0) ho (by decide)
    have e : nextE 4 o 0 0 0 0 = 0 := by
      unfold nextE
      rw [if_neg (by rw [hr]; decide), if_neg (by decide), if_pos (by decide), if_neg (show ¬ (0 : Int) = 5 by decide), if_neg (by decide +kernel)]
    unfold turnG gst nextK nextO
    simp only [e, if_pos]
    rfl
theorem gst_take {o : Int} (ho : 1 ≤ o ∧ o ≤ 16) : turnG 4 o zD = (gst o 0, 0) := by
  have hr := gst_right (o := o) (i := 0) ho (by decide)
  have e : nextE 0 0 0 0 4 o = 0 := by
    unfold nextE
    rw [if_neg (by decide +kernel), if_neg (by decide), if_pos (by decide), if_neg (c := (4 : Int) = 5) (by decide), if_neg (by rw [hr]; decide)]
  unfold turnG zD nextK nextO gst
  simp only [e, if_pos]
  rfl
theorem getD_some {ds : List DT} {k : Nat} {d : DT} (h : ds[k]? = some d) : ds.getD k zD = d := by rw [List.getD_eq_getElem?_getD, h]; rfl
theorem pleast_row (n : Int) (hn : (Lit.int .u8 n).wf = true) (p : Option Addr) (m c : Nat) (xs : List Int) (hm : m = xs.length) (_ : m ≤ maxLen) {w : World} (hx : Sl w (.one (.int .u8)) p xs) (hxw : ∀ x ∈ xs, (Lit.int .u8 x).wf = true) :
    CallsR Try.prog 4 (.el (.one .bool)) [.int .u8 n, .slice p m c] w (fun b w' => b = true ∧ Ext w w') := by
  refine rxFn_ok (C := E3) (ann := pleast_vc_ann) (Eq.mpr (pleast_vc n p m c w _) ?_)
  have H := At.start [] w
  have hn' := u8_rng hn
  have c1 : convI .i64 n = n := wrap_i64_id (by omega) (by omega)
  have c3 : addI .i64 1 n = 1 + n := addI_i64 (by omega) (by omega)
  simp only [c1, c3]
  refine pnew_at H (1 + n) (fun h => absurd h (by omega)) fun _ _ bp bf w1 H => ?_
  have hpos : 0 < (1 + n).toNat := by omega
  have hNn : ((1 + n).toNat : Int) = 1 + n := by omega
  generalize hN : (1 + n).toNat = N at H hpos hNn ⊢
  refine brP_intro (fun c => brP_pos rfl ?_) (fun c => ?_)
  · exact CaP.val H (s := .el (.one .bool)) true (fun w3 H => pknown_ok w3) fun w4 H => EnP.go H fun w5 H => ⟨rfl, H.all⟩
  have hm40 : m ≤ 40 := by simp at c; omega
  refine ⟨fun q s w' => ∃ i : Nat, s.1 = i ∧ q + i = N ∧ At [] w w' [(bp, [.slice (some ⟨bf, 0, none⟩) N N]), (bf, flat eD (mons N i) ++ [])], ⟨N, fun w3 h3 => ⟨0, rfl, rfl, ?_⟩⟩, ?_⟩
  · have e : mons N 0 = List.replicate N zD := by simp [mons]
    rw [e]; exact H.ext h3
  rintro q ⟨i', u⟩ w3 ⟨i, hi, hq, H⟩
  simp only at hi
  subst hi
  dsimp only
  refine brP_intro (fun c => ?_) (fun c => ?_)
  · have hi : i < N := by simp only [decide_eq_true_eq] at c; omega
    refine take_at H 0 1 rfl rfl (by decide) (mons_len (by omega)).symm hpos (by omega) 2 0 fun w4 H => ?_
    obtain ⟨t1, t2, t3⟩ := takes (d' := mon) (mons_free hi) (by rw [mons_len (by omega)]; exact hi) (getD_some (mons_at hi)) (by decide +kernel : turnG 2 0 zD = (mon, 0))
    rw [t3, mons_set hi] at H
    rw [t1, t2]
    refine brP_neg (by simp) fun w5 h5 => ⟨q - 1, by omega, i + 1, by rw [addI_i64 (by omega) (by omega)]; rfl, by omega, H.ext h5⟩
  have hi : N ≤ i := by simp only [decide_eq_false_iff_not] at c; omega
  have hNi : i = N := by omega
  subst hNi
  have len : ∀ {ds : List DT} {k : Nat} {d : DT}, ds.length = i → (ds.set k d).length = i := fun h => by simpa using h
  refine ⟨fun q s w' => ∃ (j : Nat) (ds : List DT), s.1 = j ∧ q + j = m ∧ ds.length = i ∧ (∀ d ∈ ds, used d) ∧ At [] w w' [(bp, [.slice (some ⟨bf, 0, none⟩) i i]), (bf, flat eD ds ++ [])], ⟨m, fun w4 h4 => ⟨0, mons i i, rfl, rfl, mons_len (Nat.le_refl _), ?_, H.ext h4⟩⟩, ?_⟩
  · intro d hd
    unfold mons at hd
    rw [Nat.sub_self, List.replicate_zero, List.append_nil] at hd
    exact .inl (List.eq_of_mem_replicate hd)
  rintro q2 ⟨j', u⟩ w4 ⟨j, ds, hj, hq2, hdl, hu, H⟩
  simp only at hj
  subst hj
  dsimp only
  refine brP_intro (fun c => ?_) (fun c => ?_)
  · have hjm : j < m := by simp only [decide_eq_true_eq] at c; omega
    have hxj : xs[j]? = some xs[j] := List.getElem?_eq_getElem (by omega)
    have hxr := u8_rng (hxw xs[j] (List.getElem_mem (by omega)))
    have hs := (hx.ext H.all) j _ hxj
    generalize xs[j] = x at hxj hxr hs
    refine ⟨⟨hs.1, by omega, by omega⟩, LdP.of x hs.2 ⟨by omega, ?_⟩⟩
    have c4 : convI .i64 x = x := wrap_i64_id (by omega) (by omega)
    have c5 : remI x (1 + n) = ((x.toNat % i : Nat) : Int) := by
      unfold remI
      rw [Int.tmod_eq_emod_of_nonneg (by omega), ← hNn]
      have : x = (x.toNat : Int) := by omega
      rw [this]; simp
    rw [c4, c5]
    have hk : x.toNat % i < i := Nat.mod_lt _ hpos
    generalize x.toNat % i = k at hk ⊢
    have hkd : ds[k]? = some ds[k] := List.getElem?_eq_getElem (by omega)
    have hku := hu ds[k] (List.getElem_mem (by omega))
    generalize ds[k] = dk at hkd hku
    have hin : (0 : Int) ≤ ((k : Nat) : Int) ∧ ((k : Nat) : Int) < ds.length := by omega
    have g1 : chE ds (k : Nat) (turnG 0 0) = 0 := by
      rw [chE_in hin]; show (turnG 0 0 (ds.getD k zD)).2 = 0; rw [getD_some hkd, used_give hku]
    have g2 : chL ds (k : Nat) (turnG 0 0) = ds.set k zD := by
      rw [chL_in hin]; show (if (turnG 0 0 (ds.getD k zD)).2 = 0 then ds.set k (turnG 0 0 (ds.getD k zD)).1 else ds) = _
      rw [getD_some hkd, used_give hku, if_pos rfl]
    refine give_at H 0 1 rfl rfl (by decide) hdl.symm hpos (by omega) _ fun w5 H => ?_
    rw [g2] at H
    rw [g1]
    refine brP_neg rfl ?_
    have c6 : remI ((j : Nat) : Int) 16 = (j : Int) % 16 := by unfold remI; exact Int.tmod_eq_emod_of_nonneg (by omega)
    have c7 : addI .i64 1 ((j : Int) % 16) = 1 + (j : Int) % 16 := addI_i64 (by omega) (by omega)
    rw [c6, c7]
    have hf : freeI (ds.set k zD) = some k := by
      refine free_some (d := zD) (List.getElem?_set_self (by omega)) rfl fun a d ha hd => ?_
      rw [List.getElem?_set_ne (by omega)] at hd
      exact used_kind (hu d (List.mem_of_getElem? hd))
    refine take_at H 0 1 rfl rfl (by decide) (len hdl).symm hpos (by omega) 4 (1 + (j : Int) % 16) fun w6 H => ?_
    obtain ⟨t1, t2, t3⟩ := takes (d' := gst (1 + (j : Int) % 16) 0) hf (by rw [len hdl]; exact hk) (getD_some (List.getElem?_set_self (by omega))) (gst_take (by omega))
    have e2 : (ds.set k zD).set k (gst (1 + (j : Int) % 16) 0) = ds.set k (gst (1 + (j : Int) % 16) 0) := List.set_set ..
    rw [t3, e2] at H
    rw [t1, t2]
    refine brP_neg (by simp) fun w7 h7 => ⟨q2 - 1, by omega, j + 1, ds.set k (gst (1 + (j : Int) % 16) 0), by rw [addI_i64 (by omega) (by omega)]; rfl, by omega, len hdl, fun d hd => ?_, H.ext h7⟩
    rcases List.mem_or_eq_of_mem_set hd with hd | rfl
    · exact hu d hd
    · exact .inr ⟨_, by omega, rfl⟩
  · have hf : freeI ds = none := free_none fun a d hd => used_kind (hu d (List.mem_of_getElem? hd))
    refine take_at H 0 1 rfl rfl (by decide) hdl.symm hpos (by omega) 4 1 fun w6 H => ?_
    have t2 : takeE ds 4 1 = 12 := by unfold takeE; rw [hf, if_neg (by omega)]
    have t3 : takeL ds 4 1 = ds := by unfold takeL; rw [hf]
    rw [t3] at H
    rw [t2]
    have hc : cntL ds 0 = 0 := by
      unfold cntL
      rw [List.countP_eq_zero]
      intro d hd
      have := used_kind (hu d hd)
      simpa using this
    refine ⟨_, fun _ => count_q H 0 1 rfl rfl hdl.symm (by omega) 0, brP_pos (by rw [hc]; rfl) ?_⟩
    exact CaP.val H (s := .el (.one .bool)) true (fun w3 H => pknown_ok w3) fun w4 H => EnP.go H fun w5 H => ⟨rfl, H.all⟩
end Go.Proofs.Ytogndkmclingeaa
