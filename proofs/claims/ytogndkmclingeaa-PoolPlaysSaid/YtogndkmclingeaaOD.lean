import Derived.Test.YtogndkmclingeaaOC
import Derived.Test.YtogndkmclingeaaQ8
namespace Go.Proofs.Ytogndkmclingeaa
set_option linter.unusedSimpArgs false
set_option linter.unusedVariables false
open Go.RX
def rightT (d : DT) : Bool := rightD d.1 d.2.1 d.2.2.1 d.2.2.2.1
def okL (ds : List DT) : Prop := ∀ d ∈ ds, rightT d = true
theorem okL_zero (n : Nat) : okL (List.replicate n zD) := fun d hd => by rw [List.eq_of_mem_replicate hd]; decide +kernel
theorem turn_right {k o : Int} {d : DT} (h : (turnG k o d).2 = 0) : rightT (turnG k o d).1 = true := (next_good h).2.1
theorem ref_right {x : Int} {d : DT} (h : (refG x d).2 = 0) : rightT (refG x d).1 = true := by
  obtain ⟨k, o, r, e, u⟩ := d
  have hV : refV k o r e x = (k, o, r + x, e, ()) := (ref_good h).1
  show rightT (refV k o r e x) = true
  rw [hV]
  show rightD k o (r + x) e = true
  have h' : refE k o r e x = 0 := h
  unfold refE at h'
  by_cases h1 : rightD k o r e = false
  · rw [if_pos h1] at h'; omega
  rw [if_neg h1] at h'
  by_cases h2 : k = 2 ∨ k = 3 ∨ k = 4
  · rw [if_pos h2] at h'
    by_cases h3 : r + x < 0 ∨ r + x > 65535
    · rw [if_pos h3] at h'; omega
    · have hp : rightP k o r e := of_decide_eq_true (show rightD k o r e = true by simpa using h1)
      exact decide_eq_true (by unfold rightP at hp ⊢; omega)
  · rw [if_neg h2] at h'; omega
theorem chL_ok {ds : List DT} {f : Int} {g : DT → DT × Int} (h : okL ds) (hg : ∀ d, (g d).2 = 0 → rightT (g d).1 = true) : okL (chL ds f g) := by
  unfold chL
  split
  · exact h
  · split
    · rename_i he
      intro d hd
      rcases List.mem_or_eq_of_mem_set hd with hd | rfl
      · exact h d hd
      · exact hg _ he
    · exact h
theorem turn_okL {ds : List DT} (h : okL ds) (f k o : Int) : okL (chL ds f (turnG k o)) := chL_ok h fun _ => turn_right
theorem ref_okL {ds : List DT} (h : okL ds) (f x : Int) : okL (chL ds f (refG x)) := chL_ok h fun _ => ref_right
theorem take_okL {ds : List DT} (h : okL ds) (k o : Int) : okL (takeL ds k o) := by
  unfold takeL
  split
  · exact h
  · exact turn_okL h _ _ _
theorem own_lt {ds : List DT} {v : Int} {i j : Nat} {a b : Nat} (hij : i < j) (ha : (ownL ds v)[i]? = some a) (hb : (ownL ds v)[j]? = some b) : a < b := by
  have hp : (ownL ds v).Pairwise (· < ·) := List.Pairwise.filter _ List.pairwise_lt_range
  obtain ⟨h1, rfl⟩ := List.getElem?_eq_some_iff.1 ha
  obtain ⟨h2, rfl⟩ := List.getElem?_eq_some_iff.1 hb
  exact List.pairwise_iff_getElem.1 hp i j h1 h2 hij
theorem own_mem {ds : List DT} {v : Int} {i a : Nat} (ha : (ownL ds v)[i]? = some a) : ∃ d, ds[a]? = some d ∧ d.2.1 = v := by
  have hm := List.mem_of_getElem? ha
  unfold ownL at hm
  obtain ⟨_, h2⟩ := List.mem_filter.1 hm
  split at h2
  · rename_i d hd; exact ⟨d, hd, by simpa using h2⟩
  · cases h2
theorem ofV_at {ds : List DT} {a : Nat} {d : DT} (h : ds[a]? = some d) : ofV ds (a : Nat) = d ∧ ofB ds (a : Nat) = true := by
  have hlt : a < ds.length := (List.getElem?_eq_some_iff.1 h).1
  have h1 : ¬ ((a : Int) < 0 ∨ (a : Int) ≥ ds.length) := by omega
  refine ⟨?_, ?_⟩
  · unfold ofV; rw [if_neg h1]; exact getD_some h
  · unfold ofB; simp only [h1, decide_false, Bool.not_false]
theorem right_owner {d : DT} (h : rightT d = true) (ho : 1 ≤ d.2.1) : 3 ≤ d.1 := by
  have hp : rightP d.1 d.2.1 d.2.2.1 d.2.2.2.1 := of_decide_eq_true h
  unfold rightP at hp; omega
abbrev opS : List Sc := [.int .i64, .int .i64, .int .i64, .int .i64, .int .i64]
theorem op_rd {w : World} {p : Option Addr} {xs : List (ScsT opS)} (hx : Sl w (.agg opS) p xs) {i : Nat} {x : ScsT opS} (h : xs[i]? = some x) {j : Nat} {y : Int} (hj : j < 5) (hy : (scsEmb opS x)[j]? = some (.int .i64 y)) : rdAt w (addP (addP p (i * 5)) j) (.one (.int .i64)) y :=
  rdAt_fld (hx i x h).2 hj hy
theorem op_ad {w : World} {p : Option Addr} {xs : List (ScsT opS)} (hx : Sl w (.agg opS) p xs) {i : Nat} {x : ScsT opS} (h : xs[i]? = some x) : (addP p (i * 5)).isSome = true := addP_some (hx i x h).1 _
theorem powned_row (p : Option Addr) (m c : Nat) (xs : List (ScsT opS)) (hm : m = xs.length) (hmx : m ≤ maxLen) {w : World} (hx : Sl w (.agg opS) p xs) (hxw : ∀ x ∈ xs, okScs opS x) (o : Int) (ho : (Lit.int .u8 o).wf = true) :
    CallsR Try.prog 6 (.el (.one .bool)) [.slice p m c, .int .u8 o] w (fun b w' => b = true ∧ Ext w w') := by
  refine rxFn_ok (C := E3) (ann := powned_vc_ann) (Eq.mpr (powned_vc p m c o w _) ?_)
  have H := At.start [] w
  have ho' := u8_rng ho
  have c1 : convI .i64 o = o := wrap_i64_id (by omega) (by omega)
  have c2 : remI o 16 = o % 16 := by unfold remI; exact Int.tmod_eq_emod_of_nonneg (by omega)
  have c3 : addI .i64 1 (o % 16) = 1 + o % 16 := addI_i64 (by omega) (by omega)
  simp only [c1, c2, c3]
  generalize hv : 1 + o % 16 = v
  have hv1 : 1 ≤ v := by omega
  refine pnew_at H 9 (fun h => absurd h (by decide)) fun _ _ bp bf w1 H => brP_neg rfl ?_
  refine ⟨fun q s w' => ∃ (i : Nat) (ds : List DT), s.1 = i ∧ q + i = 60 ∧ i ≤ 60 ∧ ds.length = 9 ∧ okL ds ∧ At [] w w' [(bp, [.slice (some ⟨bf, 0, none⟩) 9 9]), (bf, flat eD ds ++ [])], ⟨60, fun w3 h3 => ⟨0, List.replicate 9 zD, rfl, rfl, by decide, by simp, okL_zero 9, H.ext h3⟩⟩, ?_⟩
  rintro q ⟨i', u⟩ w3 ⟨i, ds, hi, hq, hi60, hdl, hok, H⟩
  simp only at hi
  subst hi
  dsimp only
  refine brP_intro (fun cc => ?_) (fun cc => ?_)
  · have him : i < m ∧ i < 60 := by simp only [Bool.and_eq_true, decide_eq_true_eq] at cc; omega
    have hxi : xs[i]? = some xs[i] := List.getElem?_eq_getElem (by omega)
    generalize xs[i] = x at hxi
    obtain ⟨xk, xf, xt, xo, xb, xu⟩ := x
    have hs := hx.ext H.all
    have ad := op_ad hs hxi
    have ix : p.isSome = true ∧ 0 ≤ (i : Int) ∧ (i : Int) < (m : Int) := ⟨(hs i _ hxi).1, by omega, by omega⟩
    refine ⟨ix, ad, LdP.of xk (op_rd hs hxi (j := 0) (by decide) rfl) (brP_intro (fun ck => ?_) (fun ck => ?_))⟩
    · refine ⟨ix, ad, LdP.of xt (op_rd hs hxi (j := 2) (by decide) rfl) ⟨ix, ad, LdP.of xo (op_rd hs hxi (j := 3) (by decide) rfl) ?_⟩⟩
      refine take_at H 0 1 rfl rfl (by decide) hdl.symm (by decide) (by decide) xt xo fun w4 H => ?_
      have hdl := (takeL_len ds xt xo).trans hdl
      have hok := take_okL hok xt xo
      generalize takeL ds xt xo = ds at H hdl hok
      refine owned_at H 0 1 rfl rfl hdl.symm (by decide) v fun r rows w5 H hr => ?_
      have hmem : ∀ x ∈ rows, x ∈ [(bp, [Value.slice (some ⟨bf, 0, none⟩) 9 9]), (bf, flat eD ds ++ [])] ++ rows := fun x hx => List.mem_append_right _ hx
      have hlen : ((ownL ds v).map fun i => ((i : Nat) : Int)).length = (ownL ds v).length := by simp
      have hle9 : (ownL ds v).length ≤ 9 := by rw [← hdl]; exact own_len ds v
      have hr1 : r.2.1 = (ownL ds v).length := hr.1.trans hlen
      refine ⟨fun q2 s w' => ∃ k : Nat, s.1 = k ∧ q2 + k = (ownL ds v).length ∧ At [] w w' ([(bp, [Value.slice (some ⟨bf, 0, none⟩) 9 9]), (bf, flat eD ds ++ [])] ++ rows), ⟨(ownL ds v).length, fun w6 h6 => ⟨0, rfl, rfl, H.ext h6⟩⟩, ?_⟩
      rintro q2 ⟨k', u⟩ w6 ⟨k, hk, hq2, H⟩
      simp only at hk
      subst hk
      dsimp only
      refine brP_intro (fun c4 => ?_) (fun c4 => fun w7 h7 => ⟨q - 1, by omega, i + 1, ds, by rw [addI_i64 (by omega) (by omega)]; rfl, by omega, by omega, hdl, hok, (H.sub (List.sublist_append_left _ rows)).ext h7⟩)
      have hkl : k < (ownL ds v).length := by simp only [decide_eq_true_eq] at c4; omega
      have hsl := hr.sl H hmem
      have ha : (ownL ds v)[k]? = some (ownL ds v)[k] := List.getElem?_eq_getElem hkl
      generalize (ownL ds v)[k] = a at ha
      have hal := List.getElem?_map (f := fun i => ((i : Nat) : Int)) (l := ownL ds v) (i := k)
      rw [ha] at hal
      have rd := hsl k _ hal
      obtain ⟨d, hd, hdo⟩ := own_mem ha
      obtain ⟨e1, e2⟩ := ofV_at hd
      have hk3 := right_owner (hok d (List.mem_of_getElem? hd)) (by omega)
      refine ⟨⟨rd.1, by omega, by omega⟩, LdP.of _ rd.2 ⟨(ofV ds (a : Nat), ofB ds (a : Nat), ()), of_q H 0 1 rfl rfl hdl.symm _, ?_⟩⟩
      rw [e1, e2]
      refine AlP.go H fun b w7 H => StP.all 0 H rfl rfl rfl fun w8 H => ⟨fun _ => trivial, LdP.atA 0 H rfl rfl ⟨fun _ => trivial, LdP.atA 0 H rfl rfl ?_⟩⟩
      have hsl2 := hr.sl H (fun x hx => List.mem_cons_of_mem _ (List.mem_append_right _ hx))
      have rd2 := hsl2 k _ hal
      have hkm : k - 1 < (ownL ds v).length := by omega
      have ham : (ownL ds v)[k - 1]? = some (ownL ds v)[k - 1] := List.getElem?_eq_getElem hkm
      generalize (ownL ds v)[k - 1] = am at ham
      have halm := List.getElem?_map (f := fun i => ((i : Nat) : Int)) (l := ownL ds v) (i := k - 1)
      rw [ham] at halm
      have rdm := hsl2 (k - 1) _ halm
      have esub : subI .i64 (k : Int) 1 = (k : Int) - 1 := subI_i64 (by omega) (by omega)
      rw [esub]
      have etn : ((k : Int) - 1).toNat = k - 1 := by omega
      refine ⟨fun hg => ⟨rd2.1, ?_, ?_⟩, LdP.of ((am : Nat) : Int) (by rw [etn]; exact rdm.2) ⟨fun _ => ⟨rd2.1, by omega, by omega⟩, LdP.of ((a : Nat) : Int) rd2.2 ?_⟩⟩
      · rw [Bool.and_eq_true, decide_eq_true_eq] at hg; omega
      · omega
      refine brP_neg ?_ fun w9 h9 => ⟨q2 - 1, by omega, k + 1, by rw [addI_i64 (by omega) (by omega)]; rfl, by omega, (H.sub (List.sublist_cons_self _ _)).ext h9⟩
      rw [hdo]
      by_cases h0 : k = 0
      · subst h0; simp; omega
      · have := own_lt (i := k - 1) (j := k) (by omega) ham ha
        simp
        omega
    · refine ⟨ix, ad, LdP.of xf (op_rd hs hxi (j := 1) (by decide) rfl) ⟨ix, ad, LdP.of xt (op_rd hs hxi (j := 2) (by decide) rfl) ⟨ix, ad, LdP.of xo (op_rd hs hxi (j := 3) (by decide) rfl) ?_⟩⟩⟩
      refine turn_at H 0 1 rfl rfl (by decide) hdl.symm (by decide) (by decide) xf xt xo fun w4 H => ?_
      have hdl := (chL_len ds xf (turnG xt xo)).trans hdl
      have hok := turn_okL hok xf xt xo
      generalize chL ds xf (turnG xt xo) = ds at H hdl hok
      refine owned_at H 0 1 rfl rfl hdl.symm (by decide) v fun r rows w5 H hr => ?_
      have hmem : ∀ x ∈ rows, x ∈ [(bp, [Value.slice (some ⟨bf, 0, none⟩) 9 9]), (bf, flat eD ds ++ [])] ++ rows := fun x hx => List.mem_append_right _ hx
      have hlen : ((ownL ds v).map fun i => ((i : Nat) : Int)).length = (ownL ds v).length := by simp
      have hle9 : (ownL ds v).length ≤ 9 := by rw [← hdl]; exact own_len ds v
      have hr1 : r.2.1 = (ownL ds v).length := hr.1.trans hlen
      refine ⟨fun q2 s w' => ∃ k : Nat, s.1 = k ∧ q2 + k = (ownL ds v).length ∧ At [] w w' ([(bp, [Value.slice (some ⟨bf, 0, none⟩) 9 9]), (bf, flat eD ds ++ [])] ++ rows), ⟨(ownL ds v).length, fun w6 h6 => ⟨0, rfl, rfl, H.ext h6⟩⟩, ?_⟩
      rintro q2 ⟨k', u⟩ w6 ⟨k, hk, hq2, H⟩
      simp only at hk
      subst hk
      dsimp only
      refine brP_intro (fun c4 => ?_) (fun c4 => fun w7 h7 => ⟨q - 1, by omega, i + 1, ds, by rw [addI_i64 (by omega) (by omega)]; rfl, by omega, by omega, hdl, hok, (H.sub (List.sublist_append_left _ rows)).ext h7⟩)
      have hkl : k < (ownL ds v).length := by simp only [decide_eq_true_eq] at c4; omega
      have hsl := hr.sl H hmem
      have ha : (ownL ds v)[k]? = some (ownL ds v)[k] := List.getElem?_eq_getElem hkl
      generalize (ownL ds v)[k] = a at ha
      have hal := List.getElem?_map (f := fun i => ((i : Nat) : Int)) (l := ownL ds v) (i := k)
      rw [ha] at hal
      have rd := hsl k _ hal
      obtain ⟨d, hd, hdo⟩ := own_mem ha
      obtain ⟨e1, e2⟩ := ofV_at hd
      have hk3 := right_owner (hok d (List.mem_of_getElem? hd)) (by omega)
      refine ⟨⟨rd.1, by omega, by omega⟩, LdP.of _ rd.2 ⟨(ofV ds (a : Nat), ofB ds (a : Nat), ()), of_q H 0 1 rfl rfl hdl.symm _, ?_⟩⟩
      rw [e1, e2]
      refine AlP.go H fun b w7 H => StP.all 0 H rfl rfl rfl fun w8 H => ⟨fun _ => trivial, LdP.atA 0 H rfl rfl ⟨fun _ => trivial, LdP.atA 0 H rfl rfl ?_⟩⟩
      have hsl2 := hr.sl H (fun x hx => List.mem_cons_of_mem _ (List.mem_append_right _ hx))
      have rd2 := hsl2 k _ hal
      have hkm : k - 1 < (ownL ds v).length := by omega
      have ham : (ownL ds v)[k - 1]? = some (ownL ds v)[k - 1] := List.getElem?_eq_getElem hkm
      generalize (ownL ds v)[k - 1] = am at ham
      have halm := List.getElem?_map (f := fun i => ((i : Nat) : Int)) (l := ownL ds v) (i := k - 1)
      rw [ham] at halm
      have rdm := hsl2 (k - 1) _ halm
      have esub : subI .i64 (k : Int) 1 = (k : Int) - 1 := subI_i64 (by omega) (by omega)
      rw [esub]
      have etn : ((k : Int) - 1).toNat = k - 1 := by omega
      refine ⟨fun hg => ⟨rd2.1, ?_, ?_⟩, LdP.of ((am : Nat) : Int) (by rw [etn]; exact rdm.2) ⟨fun _ => ⟨rd2.1, by omega, by omega⟩, LdP.of ((a : Nat) : Int) rd2.2 ?_⟩⟩
      · rw [Bool.and_eq_true, decide_eq_true_eq] at hg; omega
      · omega
      refine brP_neg ?_ fun w9 h9 => ⟨q2 - 1, by omega, k + 1, by rw [addI_i64 (by omega) (by omega)]; rfl, by omega, (H.sub (List.sublist_cons_self _ _)).ext h9⟩
      rw [hdo]
      by_cases h0 : k = 0
      · subst h0; simp; omega
      · have := own_lt (i := k - 1) (j := k) (by omega) ham ha
        simp
        omega
  · exact CaP.val H (s := .el (.one .bool)) true (fun w3 H => pknown_ok w3) fun w4 H => EnP.go H fun w5 H => ⟨rfl, H.all⟩
end Go.Proofs.Ytogndkmclingeaa
