import Derived.Test.YtffnfcokgemgjaaVC
namespace Go.Proofs.Ytffnfcokgemgjaa
set_option linter.unusedSimpArgs false
set_option linter.unusedVariables false
set_option maxRecDepth 100000
open Go.RX
theorem bad_iff (f p t : Int) : badW f p t = !(decide (f ≥ 0) && decide (f ≤ 4095) && decide (p ≥ 0) && decide (p ≤ 65535) && decide (t ≥ 0) && decide (t ≤ 7)) := by
  unfold badW
  by_cases h : (0 ≤ f ∧ f < 4096) ∧ (0 ≤ p ∧ p < 65536)
  · rw [at3 h.1 h.2, decide_eq_false (by omega : ¬ 16 * f + p / 4096 % 16 < 0), decide_eq_true (by omega : f ≥ 0), decide_eq_true (by omega : f ≤ 4095), decide_eq_true (by omega : p ≥ 0), decide_eq_true (by omega : p ≤ 65535)]
    by_cases h1 : t < 0 <;> by_cases h2 : t > 7 <;> simp [h1, h2] <;> omega
  · have e : atI f p 3 = -1 := by
      unfold atI
      by_cases h1 : 0 ≤ p ∧ p < 65536
      · rw [if_pos (by omega)]
      · have : indexI p 3 = -1 := by unfold indexI; rw [if_neg (by omega)]
        rw [this, if_pos (by omega)]
    rw [e]
    have : (decide (f ≥ 0) && decide (f ≤ 4095) && decide (p ≥ 0) && decide (p ≤ 65535)) = false := by
      by_cases h1 : 0 ≤ f <;> by_cases h2 : f ≤ 4095 <;> by_cases h3 : 0 ≤ p <;> by_cases h4 : p ≤ 65535 <;> simp [h1, h2, h3, h4] <;> omega
    rw [this]; rfl
theorem rrgt_q {w : World} (f p t : Int) : QCalls Try.prog 25 [.int .i64 f, .int .i64 p, .int .i64 t] w (.bool (!badW f p t)) := QCalls.of (s := .el (.one .bool)) fun w' h' => by
  refine rxFn_ok (C := M1) (ann := fun _ => []) (Eq.mpr (rrgt_vc f p t w' _) ?_)
  intro w1 h1
  rw [bad_iff, Bool.not_not]
  exact ⟨rfl, h1⟩
section
variable {D G : List Nat} {w0 w : World} {L : List (Nat × List Value)}
theorem rwnew_at (H : AtD D G w0 w L) (f p t : Int) {K : Option Addr → World → Prop}
    (hg : ∀ bk w1, AtD D G w0 w1 ((bk, rcs f p t 3 false (0, 0, 0, 0, ()) (none, 0, 0)) :: L) → K (some ⟨bk, 0, none⟩) w1) :
    CaP Try.prog 26 (.el (.one .ptr)) [.int .i64 f, .int .i64 p, .int .i64 t] w K := by
  refine CaP.go H fun w1 H => rxFn_ok (C := M1) (ann := fun _ => []) (Eq.mpr (rwnew_vc f p t w1 K) ?_)
  exact AlP.go H fun b w2 H => EnP.go H fun w3 H => hg b w3 H
theorem rwall_at {bm bw n c : Nat} {ca la : Int} {ws : List Int} {rest : List Value} {L0 : List (Nat × List Value)} (H : At [] w0 w ((bm, mcs bw n c ca la) :: (bw, flat eW ws ++ rest) :: L0)) (hn : n = ws.length) (hW : okW ws) (f p t : Int) {K : FT → World → Prop}
    (k : ∀ ca' w1, At [] w0 w1 ((bm, mcs bw n c ca' la) :: (bw, flat eW ws ++ rest) :: L0) → K (allS ws f p t) w1) :
    CaP Try.prog 11 (.el (.agg sF)) [.pointer (some ⟨bm, 0, none⟩), .int .i64 f, .int .i64 p, .int .i64 t] w K := by
  refine CaP.go H fun w1 H => rxFnR_ok (C := M1) (ann := rwall_vc_ann) (Eq.mpr (rwall_vc _ f p t w1 K) ?_)
  refine AlP.go H fun b w2 H => ⟨_, rrgt_q f p t, ?_⟩
  cases hb : badW f p t with
  | true =>
    have e : allS ws f p t = (0, 0, 0, 1, ()) := if_pos hb
    rw [e] at k
    exact brP_pos rfl (StP.all 0 H rfl rfl rfl fun w4 H => EnP.go H fun w5 H => LdP.at 0 H rfl rfl (k ca w5 (H.sub (List.sublist_cons_self _ _))))
  | false =>
  have e : allS ws f p t = (itS ws f p t 4).2.2 := if_neg (by rw [hb]; decide)
  rw [e] at k
  refine brP_neg rfl (rwnew_at H f p t fun bk w3 H => ?_)
  refine ⟨fun q x w' => ∃ (i : Nat) (Ls : List (Nat × List Value)) (s : Option Addr × Nat × Nat) (xs : List Int) (ca' lv : Int) (dn : Bool), x.1 = i ∧ q + i = 4 ∧ xs.length ≤ i ∧ PIn Ls s xs ∧ ((dn = true ∧ (itS ws f p t i).2.1 = -1) ∨ (dn = false ∧ (itS ws f p t i).2.1 = lv ∧ 0 ≤ lv ∧ lv ≤ 3)) ∧
      At [] w0 w' ((bk, rcs (itS ws f p t i).1 p t lv dn (itS ws f p t i).2.2 s) :: (bm, mcs bw n c ca' la) :: (bw, flat eW ws ++ rest) :: (Ls ++ ((b, [.int .i64 0, .int .i64 0, .int .i64 0, .int .i64 0]) :: L0))), ⟨4, fun w4 h4 => ⟨0, [], (none, 0, 0), [], ca, 3, false, rfl, rfl, Nat.le_refl _, .inl ⟨rfl, rfl, rfl⟩, .inr ⟨rfl, rfl, by decide, by decide⟩, (H.ext h4).perm ?_⟩⟩, ?_⟩
  · exact .cons _ (List.perm_append_comm (l₁ := [(bm, mcs bw n c ca la), (bw, flat eW ws ++ rest)]) (l₂ := [(b, [.int .i64 0, .int .i64 0, .int .i64 0, .int .i64 0])]) |>.append_right L0)
  clear H
  rintro q ⟨i', u⟩ w4 ⟨i, Ls, s, xs, ca', lv, dn, hi, hq, hxl, hP, hd, H⟩
  simp only at hi
  subst hi
  dsimp only
  refine brP_intro (fun c1 => ?_) (fun c1 => ?_)
  · have hi4 : i < 4 := by have := of_decide_eq_true c1; omega
    have e1 : addI .i64 (i : Int) 1 = ((i + 1 : Nat) : Int) := by rw [addI_i64 (by omega) (by omega)]; rfl
    rcases hd with ⟨rfl, hd⟩ | ⟨rfl, hd, hl⟩
    · refine rwstep_done H 0 rfl _ fun w5 H => fun w6 h6 => ⟨q - 1, by omega, i + 1, Ls, s, xs, ca', lv, true, e1, by omega, by omega, hP, ?_, ?_⟩
      · have : itS ws f p t (i + 1) = itS ws f p t i := step_done hd
        rw [this]; exact .inl ⟨rfl, hd⟩
      · have : itS ws f p t (i + 1) = itS ws f p t i := step_done hd
        rw [this]; exact H.ext h6
    · have es : stepS ws p t ((itS ws f p t i).1, lv, (itS ws f p t i).2.2) = itS ws f p t (i + 1) := by rw [← hd]; rfl
      refine rwstep_at H hP (by omega) hn hW hl (fun hd2 w5 Ls' s' hP' H => fun w6 h6 => ?_) (fun hd2 w5 Ls' s' hP' H => fun w6 h6 => ?_)
      · rw [es] at H hd2
        exact ⟨q - 1, by omega, i + 1, Ls', s', _, _, lv, true, e1, by omega, by rw [List.length_append]; simp; omega, hP', .inl ⟨rfl, hd2⟩, H.ext h6⟩
      · rw [es] at H hd2
        have h3 := (it_lv ws f p t (i + 1)).resolve_left hd2
        exact ⟨q - 1, by omega, i + 1, Ls', s', _, _, _, false, e1, by omega, by rw [List.length_append]; simp; omega, hP', .inr ⟨rfl, rfl, by omega, by omega⟩, H.ext h6⟩
  · have hi4 : i = 4 := by have := of_decide_eq_false c1; omega
    subst hi4
    generalize itS ws f p t 4 = y at H k
    obtain ⟨y0, y1, ⟨y2, y3, y4, y5, yu⟩⟩ := y
    refine ⟨rfl, rfl, LdP.atA (x := (y2, y3, y4, y5, ())) 0 H rfl rfl ?_⟩
    have H := H.perm (L' := (b, [.int .i64 0, .int .i64 0, .int .i64 0, .int .i64 0]) :: ((bk, rcs y0 p t lv dn (y2, y3, y4, y5, ()) s) :: (bm, mcs bw n c ca' la) :: (bw, flat eW ws ++ rest) :: (Ls ++ L0))) (by
      refine (List.perm_middle (l₁ := [(bk, rcs y0 p t lv dn (y2, y3, y4, y5, ()) s), (bm, mcs bw n c ca' la), (bw, flat eW ws ++ rest)] ++ Ls) (a := (b, [.int .i64 0, .int .i64 0, .int .i64 0, .int .i64 0])) (l₂ := L0)).symm)
    refine StP.all 0 H rfl rfl rfl fun w6 H => EnP.go H fun w7 H => LdP.at 0 H rfl rfl (k ca' w7 ?_)
    have H := (H.sub (List.sublist_cons_self _ _)).sub (List.sublist_cons_self _ _)
    exact H.sub (.cons_cons _ (.cons_cons _ (List.sublist_append_right _ _)))
theorem rwall_q {bm bw n c : Nat} {ca la : Int} {ws : List Int} {rest : List Value} (H : At [] w0 w L) (j jw : Nat) (hm : L[j]? = some (bm, mcs bw n c ca la)) (hw : L[jw]? = some (bw, flat eW ws ++ rest)) (hj : j ≠ jw) (hn : n = ws.length) (hW : okW ws) (f p t : Int) {K : FT → World → Prop}
    (k : ∀ ca' w1, At [] w0 w1 (L.set j (bm, mcs bw n c ca' la)) → K (allS ws f p t) w1) :
    CaP Try.prog 11 (.el (.agg sF)) [.pointer (some ⟨bm, 0, none⟩), .int .i64 f, .int .i64 p, .int .i64 t] w K := by
  obtain ⟨L2, q1, q2⟩ := front2 hm hw hj
  exact rwall_at (H.perm q1.symm) hn hW f p t fun ca' w1 H => k ca' w1 (H.perm (q2 _))
theorem wplain_q (f : FT) : QCalls Try.prog 9 [.agg ⟨[.int .i64 f.1, .int .i64 f.2.1, .int .i64 f.2.2.1, .int .i64 f.2.2.2.1]⟩] w ((Sh.el (.agg sF)).emb f) := QCalls.of (s := .el (.agg sF)) fun w' h' => by
  refine rxFnR_ok (C := M1) (ann := fun _ => []) (Eq.mpr (wplain_vc _ _ _ _ w' _) ?_)
  have H := At.start [] w'
  refine AlP.go H fun b w2 H => AlP.go H fun b2 w3 H => ⟨rfl, LdP.atA 1 H rfl rfl ⟨rfl, LdP.atA 1 H rfl rfl ⟨rfl, LdP.atA 1 H rfl rfl ⟨rfl, LdP.atA 1 H rfl rfl ?_⟩⟩⟩⟩
  exact StP.all 0 H rfl rfl rfl fun w3 H => EnP.go H fun w4 H => LdP.at 0 H rfl rfl ⟨rfl, H.all⟩
end
theorem lall_ok (p : Option Addr) (m c : Nat) (xs : List (ScsT sW)) (hm : m = xs.length) (_ : m ≤ maxLen) {w : World} (hx : Sl w (.agg sW) p xs) (hxw : ∀ x ∈ xs, okScs sW x) (x y z : Int) :
    CallsR Try.prog 3 (.el (.one .bool)) [.slice p m c, .agg ⟨[.int .i64 x, .int .i64 y, .int .i64 z]⟩] w (fun b w' => b = true ∧ Ext w w') := by
  refine rxFn_ok (C := M1) (ann := fun _ => []) (Eq.mpr (lall_vc p m c x y z w _) ?_)
  have H := At.start [] w
  refine AlP.go H fun b w1 H => both_at H p m c xs hm (fun w' A H => hx.ext H.all) fun bm bw bm2 bw2 ca la ca2 la2 w2 hca H => ?_
  have hW := ldW_ok _ (xs.take 200) rfl fun z hz => u64_rng (hxw z (List.mem_of_mem_take hz)).2.1
  generalize ldW (xs.take 200) = ws at H hW
  have ix : ∀ {q : Int}, 0 ≤ q ∧ q < 3 → ((!(some (⟨bm, 0, none⟩ : Addr)).isNone) = true → true = true ∧ (0 : Int) ≤ q ∧ q < ((3 : Nat) : Int)) := fun h _ => ⟨rfl, h.1, h.2⟩
  refine ⟨ix ⟨by decide, by decide⟩, LdP.atA 4 H rfl rfl ⟨ix ⟨by decide, by decide⟩, LdP.atA 4 H rfl rfl ⟨ix ⟨by decide, by decide⟩, LdP.atA 4 H rfl rfl ⟨ix ⟨by decide, by decide⟩, LdP.atA 4 H rfl rfl ⟨ix ⟨by decide, by decide⟩, LdP.atA 4 H rfl rfl ⟨ix ⟨by decide, by decide⟩, LdP.atA 4 H rfl rfl ?_⟩⟩⟩⟩⟩⟩
  refine brP_pos rfl (wall_q H 0 1 rfl rfl (by decide) hW.1.symm (by decide) hW.2 ⟨by omega, by omega⟩ x y z fun ca3 w3 hc3 H => ?_)
  refine ⟨fun _ => by rw [addP_B]; exact (H.get (i := 4) rfl).rd1 rfl, trivial, fun _ => by rw [addP_B]; exact (H.get (i := 4) rfl).rd1 rfl, trivial, fun _ => by rw [addP_B]; exact (H.get (i := 4) rfl).rd1 rfl, trivial, _, wplain_q _, ?_⟩
  refine rwall_q H 2 3 rfl rfl (by decide) hW.1.symm hW.2 x y z fun ca4 w4 H => brP_pos ?_ (fin_known H.all)
  simp
theorem lall_row (p : Option Addr) (m c : Nat) (xs : List (ScsT sW)) (hm : m = xs.length) (hmx : m ≤ maxLen) {w : World} (hx : Sl w (.agg sW) p xs) (hxw : ∀ x ∈ xs, okScs sW x) (v : ScsT [.int .i64, .int .i64, .int .i64]) (_ : okScs [.int .i64, .int .i64, .int .i64] v) :
    CallsR Try.prog 3 (.el (.one .bool)) [.slice p m c, .agg ⟨scsEmb [.int .i64, .int .i64, .int .i64] v⟩] w (fun b w' => b = true ∧ Ext w w') := by
  obtain ⟨x, y, z, u⟩ := v
  exact lall_ok p m c xs hm hmx hx hxw x y z
end Go.Proofs.Ytffnfcokgemgjaa
