import Derived.Test.YtffnfcokgemgjaaVA
namespace Go.Proofs.Ytffnfcokgemgjaa
set_option linter.unusedSimpArgs false
set_option linter.unusedVariables false
set_option maxRecDepth 100000
open Go.RX
def RelF (k : Int) (f g : FT) : Prop := (f.2.2.2.1 ≠ 0 ∧ g = f) ∨ (f.2.2.2.1 = 0 ∧ g.1 = f.1 ∧ g.2.1 = f.2.1 ∧ g.2.2.1 = f.2.2.1 ∧ ((g.2.2.2.1 == 0) = (andI .i64 f.2.1 k == k)) ∧ (g.2.2.2.1 = 0 ∨ g.2.2.2.1 = 7) ∧ 0 < f.2.1)
theorem and_chk : ((List.range 8).all fun r => (List.range 8).all fun k => (andNotI .i64 ((k : Nat) : Int) ((r : Nat) : Int) == 0) == (andI .i64 ((r : Nat) : Int) ((k : Nat) : Int) == ((k : Nat) : Int))) = true := by decide +kernel
theorem and_rights {r k : Int} (hr : 0 ≤ r ∧ r ≤ 7) (hk : 0 ≤ k ∧ k ≤ 7) : (andNotI .i64 k r == 0) = (andI .i64 r k == k) := by
  have h1 := List.all_eq_true.1 and_chk r.toNat (List.mem_range.2 (by omega))
  have h2 := List.all_eq_true.1 h1 k.toNat (List.mem_range.2 (by omega))
  rw [show ((r.toNat : Nat) : Int) = r by omega, show ((k.toNat : Nat) : Int) = k by omega, beq_iff_eq] at h2
  exact h2
theorem allows_eq {ep : Bool} {er : Int} {el : Bool} {ef k : Int} (h : rightE ep er el ef = true) (hr : 0 < er) (hk : 0 ≤ k ∧ k ≤ 7) : allowsE ep er el ef k = (andI .i64 er k == k) := by
  have hb := right_bd h
  unfold allowsE
  rw [h, decide_eq_true (by omega), decide_eq_true (by omega), decide_eq_true (by omega), and_rights ⟨by omega, hb.2.1⟩ hk]; rfl
theorem and_zero' {r : Int} (hr : 0 ≤ r ∧ r ≤ 7) : (andI .i64 r 0 == 0) = true := by
  rcases (by omega : r = 0 ∨ r = 1 ∨ r = 2 ∨ r = 3 ∨ r = 4 ∨ r = 5 ∨ r = 6 ∨ r = 7) with rfl | rfl | rfl | rfl | rfl | rfl | rfl | rfl <;> decide +kernel
theorem inF_rel {lv f : Int} {ep : Bool} {er : Int} {el : Bool} {ef k : Int} (h : rightE ep er el ef = true) (hr : 0 < er) (hk : 0 ≤ k ∧ k ≤ 7) : RelF k (inF lv 0 f ep er el ef) (inF lv k f ep er el ef) := by
  have hb := right_bd h
  unfold inF
  by_cases hf : f ≥ 4096
  · rw [if_pos hf, if_pos hf]; exact .inl ⟨(show (11 : Int) ≠ 0 by decide), rfl⟩
  · rw [if_neg hf, if_neg hf, allows_eq h hr ⟨by decide, by decide⟩, allows_eq h hr hk, if_pos (and_zero' ⟨by omega, hb.2.1⟩)]
    refine .inr ⟨rfl, ?_⟩
    cases hc : (andI .i64 er k == k) with
    | true =>
      rw [if_pos rfl]
      refine ⟨rfl, rfl, rfl, ?_, .inl rfl, hr⟩
      rfl
    | false =>
      rw [if_neg (by decide)]
      refine ⟨rfl, rfl, rfl, ?_, .inr rfl, hr⟩
      rfl
theorem took_rel {fr pg lv k : Int} {fd : FT} {ep : Bool} {er : Int} {el : Bool} {ef : Int} (h : rightE ep er el ef = true) (hk : 0 ≤ k ∧ k ≤ 7) :
    (tookS fr pg k lv fd ep er el ef).1 = (tookS fr pg 0 lv fd ep er el ef).1 ∧ (tookS fr pg k lv fd ep er el ef).2.1 = (tookS fr pg 0 lv fd ep er el ef).2.1 ∧
      (((tookS fr pg 0 lv fd ep er el ef).2.2 = fd ∧ (tookS fr pg k lv fd ep er el ef).2.2 = fd ∧ (tookS fr pg 0 lv fd ep er el ef).2.1 = subI .i64 lv 1 ∧ lv > 0) ∨ ((tookS fr pg 0 lv fd ep er el ef).2.1 = -1 ∧ RelF k (tookS fr pg 0 lv fd ep er el ef).2.2 (tookS fr pg k lv fd ep er el ef).2.2)) := by
  unfold tookS
  by_cases c0 : (!ep) = true
  · rw [if_pos c0, if_pos c0]; exact ⟨rfl, rfl, .inr ⟨rfl, .inl ⟨(show (4 : Int) ≠ 0 by decide), rfl⟩⟩⟩
  rw [if_neg c0, if_neg c0]
  have hep : ep = true := by simpa using c0
  by_cases c1 : (tableE ep er el ef && decide (lv > 0)) = true
  · rw [if_pos c1, if_pos c1]
    have hl : lv > 0 := by rw [Bool.and_eq_true] at c1; exact of_decide_eq_true c1.2
    exact ⟨rfl, rfl, .inl ⟨rfl, rfl, rfl, hl⟩⟩
  rw [if_neg c1, if_neg c1]
  by_cases c2 : (el && lv == 1) = true
  · rw [if_pos c2, if_pos c2]
    have hel : el = true := by rw [Bool.and_eq_true] at c2; exact c2.1
    have hr : 0 < er := by
      subst hep; subst hel
      unfold rightE at h
      simp at h
      exact h.2
    exact ⟨rfl, rfl, .inr ⟨rfl, inF_rel h hr hk⟩⟩
  rw [if_neg c2, if_neg c2]
  by_cases c3 : (!el && decide (er > 0) && lv == 0) = true
  · rw [if_pos c3, if_pos c3]
    have hr : 0 < er := by rw [Bool.and_eq_true, Bool.and_eq_true] at c3; exact of_decide_eq_true c3.1.2
    exact ⟨rfl, rfl, .inr ⟨rfl, inF_rel h hr hk⟩⟩
  rw [if_neg c3, if_neg c3]
  exact ⟨rfl, rfl, .inr ⟨rfl, .inl ⟨(show (11 : Int) ≠ 0 by decide), rfl⟩⟩⟩
theorem okV_right {N : Nat} (h : okV N = true) : rightE (prP N) (prR N) (prL N) (prF N) = true := by
  have h2 := h
  unfold okV at h2
  rw [Bool.and_eq_true, Bool.and_eq_true] at h2
  unfold prP prR prL prF
  rw [h, if_pos rfl, if_pos rfl, Bool.true_and, Bool.true_and]
  exact h2.2
def RelI (k : Int) (x y : Int × Int × FT) : Prop := y.1 = x.1 ∧ y.2.1 = x.2.1 ∧ ((x.2.1 ≠ -1 ∧ x.2.2 = y.2.2) ∨ (x.2.1 = -1 ∧ RelF k x.2.2 y.2.2))
theorem it_rel {ws : List Int} {f p k : Int} (hk : 0 ≤ k ∧ k ≤ 7) : ∀ i : Nat, RelI k (itS ws f p 0 i) (itS ws f p k i)
  | 0 => ⟨rfl, rfl, .inl ⟨(show (3 : Int) ≠ -1 by decide), rfl⟩⟩
  | i + 1 => by
    have hlv := it_lv ws f p 0 i
    have ih := it_rel (ws := ws) (f := f) (p := p) hk i
    show RelI k (stepS ws p 0 (itS ws f p 0 i)) (stepS ws p k (itS ws f p k i))
    generalize itS ws f p 0 i = x at ih hlv
    generalize itS ws f p k i = y at ih
    obtain ⟨x1, x2, x3⟩ := x
    obtain ⟨y1, y2, y3⟩ := y
    obtain ⟨e1, e2, e3⟩ := ih
    simp only at e1 e2 e3 hlv
    subst e1; subst e2
    rcases e3 with ⟨h1, rfl⟩ | ⟨h1, h2⟩
    · have hl := hlv.resolve_left h1
      unfold stepS
      simp only
      rw [if_neg h1, if_neg h1]
      by_cases c : (!okV (B (ldV ws (atI y1 p y2))).toNat || ldE ws (atI y1 p y2) != 0) = true
      · rw [if_pos c, if_pos c]
        exact ⟨rfl, rfl, .inr ⟨rfl, .inl ⟨(show (11 : Int) ≠ 0 by decide), rfl⟩⟩⟩
      · rw [if_neg c, if_neg c]
        have hok : okV (B (ldV ws (atI y1 p y2))).toNat = true := by
          rw [Bool.or_eq_true, not_or] at c
          simpa using c.1
        obtain ⟨t1, t2, t3⟩ := took_rel (fr := y1) (pg := p) (lv := y2) (fd := x3) (okV_right hok) hk
        refine ⟨t1, t2, ?_⟩
        rcases t3 with ⟨a1, a2, a3, a4⟩ | ⟨a1, a2⟩
        · refine .inl ⟨?_, a1.trans a2.symm⟩
          rw [a3, subI_i64 (by omega) (by omega)]
          omega
        · exact .inr ⟨a1, a2⟩
    · rw [step_done (x := (y1, y2, x3)) h1, step_done (x := (y1, y2, y3)) h1]
      exact ⟨rfl, rfl, .inr ⟨h1, h2⟩⟩
theorem bad0 {p k : Int} (hp : 0 ≤ p ∧ p < 65536) (hk : 0 ≤ k ∧ k ≤ 7) : badW 0 p k = false := by
  unfold badW
  rw [at3 ⟨by decide, by decide⟩ hp, decide_eq_false (by omega), decide_eq_false (by omega), decide_eq_false (by omega)]; rfl
theorem all_rel {ws : List Int} {p k : Int} (hp : 0 ≤ p ∧ p < 65536) (hk : 0 ≤ k ∧ k ≤ 7) : RelF k (allS ws 0 p 0) (allS ws 0 p k) := by
  have e0 : allS ws 0 p 0 = (itS ws 0 p 0 4).2.2 := if_neg (by rw [bad0 hp ⟨by decide, by decide⟩]; decide)
  have e1 : allS ws 0 p k = (itS ws 0 p k 4).2.2 := if_neg (by rw [bad0 hp hk]; decide)
  rw [e0, e1]
  obtain ⟨_, _, h⟩ := it_rel (ws := ws) (f := 0) (p := p) hk 4
  have hl : (itS ws 0 p 0 4).2.1 = -1 := by
    rcases it_lv ws 0 p 0 4 with h | ⟨_, h⟩
    · exact h
    · omega
  rcases h with ⟨h1, _⟩ | ⟨_, h2⟩
  · exact absurd hl h1
  · exact h2
theorem lrights_row (p : Option Addr) (m c : Nat) (xs : List (ScsT sW)) (hm : m = xs.length) (_ : m ≤ maxLen) {w : World} (hx : Sl w (.agg sW) p xs) (hxw : ∀ x ∈ xs, okScs sW x) (x : Int) (hxx : (Lit.int .u16 x).wf = true) (y : Int) (hy : (Lit.int .u8 y).wf = true) :
    CallsR Try.prog 4 (.el (.one .bool)) [.slice p m c, .int .u16 x, .int .u8 y] w (fun b w' => b = true ∧ Ext w w') := by
  refine rxFn_ok (C := M1) (ann := fun _ => []) (Eq.mpr (lrights_vc p m c x y w _) ?_)
  have hx1 := u16_rng hxx
  have hy1 := u8_rng hy
  rw [conv_id (x := x) (by omega) (by omega), conv_id (x := y) (by omega) (by omega), rem_id (x := y) (by omega)]
  obtain ⟨k, hk⟩ : ∃ k, k = y % 8 := ⟨_, rfl⟩
  rw [← hk]
  have hk1 : 0 ≤ k ∧ k ≤ 7 := by omega
  have H := At.start [] w
  refine both_at H p m c xs hm (fun w' A H => hx.ext H.all) fun bm bw bm2 bw2 ca la ca2 la2 w2 hca H => ?_
  have hW := ldW_ok _ (xs.take 200) rfl fun z hz => u64_rng (hxw z (List.mem_of_mem_take hz)).2.1
  generalize ldW (xs.take 200) = ws at H hW
  refine brP_neg rfl (wall_q H 0 1 rfl rfl (by decide) hW.1.symm (by decide) hW.2 ⟨by omega, by omega⟩ 0 x 0 fun ca3 w3 hc3 H => ?_)
  refine AlP.go H fun b1 w4 H => StP.all 0 H rfl rfl rfl fun w5 H => ?_
  refine wall_q H 1 2 rfl rfl (by decide) hW.1.symm (by decide) hW.2 ⟨by omega, by omega⟩ 0 x k fun ca4 w6 hc4 H => ?_
  refine AlP.go H fun b2 w7 H => StP.all 0 H rfl rfl rfl fun w8 H => ⟨rfl, LdP.atA 1 H rfl rfl ?_⟩
  have hrel := all_rel (ws := ws) hx1 hk1
  generalize allS ws 0 x 0 = f at hrel H
  generalize allS ws 0 x k = g at hrel H
  obtain ⟨f1, f2, f3, f4, fu⟩ := f
  obtain ⟨g1, g2, g3, g4, gu⟩ := g
  rcases hrel with ⟨r1, r2⟩ | ⟨r1, r2, r3, r4, r5, r6, r7⟩
  · cases r2
    simp only at r1
    refine brP_pos (by simpa using r1) (LdP.at 0 H rfl rfl (LdP.at 1 H rfl rfl (brP_pos (by simp) (fin_known H.all))))
  · simp only at r1 r2 r3 r4 r5 r6 r7
    subst r1; subst r2; subst r3; subst r4
    refine brP_neg rfl ⟨rfl, LdP.atA 0 H rfl rfl ⟨rfl, LdP.atA 1 H rfl rfl ⟨fun _ => rfl, LdP.atA 0 H rfl rfl ⟨fun _ => rfl, LdP.atA 1 H rfl rfl ⟨fun _ => rfl, LdP.atA 0 H rfl rfl ⟨fun _ => rfl, LdP.atA 1 H rfl rfl ⟨fun _ => rfl, LdP.atA 0 H rfl rfl ⟨fun _ => rfl, LdP.atA 1 H rfl rfl ⟨fun _ => rfl, LdP.atA 0 H rfl rfl ⟨fun _ => rfl, LdP.atA 0 H rfl rfl ⟨fun _ => rfl, LdP.atA 1 H rfl rfl (brP_pos ?_ (fin_known H.all))⟩⟩⟩⟩⟩⟩⟩⟩⟩⟩⟩
    rcases r6 with rfl | rfl
    · have r8 : andI .i64 g2 k = k := by simpa using r5.symm
      simp [r7, r8]
    · have r8 : ¬ andI .i64 g2 k = k := by
        have := r5.symm
        simpa using this
      simp [r7, r8]
end Go.Proofs.Ytffnfcokgemgjaa
