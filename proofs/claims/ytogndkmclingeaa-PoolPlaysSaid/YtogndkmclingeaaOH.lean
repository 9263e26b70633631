import Derived.Test.YtogndkmclingeaaOG
namespace Go.Proofs.Ytogndkmclingeaa
set_option linter.unusedSimpArgs false
set_option linter.unusedVariables false
open Go.RX
theorem perm7 {α : Type} (a b c d e f g : α) : [a, b, c, d, e, f, g].Perm [c, a, b, f, g, d, e] :=
  (List.perm_append_comm (l₁ := [a, b]) (l₂ := [c])).append (List.perm_append_comm (l₁ := [d, e]) (l₂ := [f, g]))
theorem sub7 {α : Type} (a b c d e f g : α) : [a, b, c, d, e].Sublist [a, b, c, d, e, f, g] := List.sublist_append_left [a, b, c, d, e] [f, g]
def plI (w : World) (rp rf : Nat) (n : Int) (q : Nat) (s : Option Addr × Int × Unit) (w' : World) : Prop :=
  ∃ (i : Nat) (bp bf c : Nat) (rest : List Value) (ds : List DT), s.2.1 = i ∧ q + i = 60 ∧ s.1 = some ⟨bp, 0, none⟩ ∧ ds.length = n.toNat ∧ At [] w w' [(bp, [.slice (some ⟨bf, 0, none⟩) n.toNat c]), (bf, flat eD ds ++ rest), (rp, [.slice (some ⟨rf, 0, none⟩) n.toNat n.toNat]), (rf, flat eD ds ++ [])]
theorem pplays_row (n : Int) (_ : (Lit.int .i64 n).wf = true) (p : Option Addr) (m c : Nat) (xs : List (ScsT opS)) (hm : m = xs.length) (hmx : m ≤ maxLen) {w : World} (hx : Sl w (.agg opS) p xs) (hxw : ∀ x ∈ xs, okScs opS x) :
    CallsR Try.prog 7 (.el (.one .bool)) [.int .i64 n, .slice p m c] w (fun b w' => b = true ∧ Ext w w') := by
  refine rxFn_ok (C := E3) (ann := pplays_vc_ann) (Eq.mpr (pplays_vc n p m c w _) ?_)
  have H := At.start [] w
  have fin : ∀ w1, Ext w w1 → CaP Try.prog 17 (.el (.one .bool)) [] w1 fun (x : Bool) (w2 : World) => EnP w2 fun (w1 : World) => x = true ∧ Ext w w1 := fun w1 h1 =>
    CaP.val (H.ext h1) (s := .el (.one .bool)) true (fun w3 H => pknown_ok w3) fun w4 H => EnP.go H fun w5 H => ⟨rfl, H.all⟩
  refine brP_intro (fun c0 => fin w (Ext.refl w)) (fun c0 => ?_)
  have hn0 : ¬ (n > 300 ∧ n ≤ 4096) := by
    intro h
    rw [decide_eq_true h.1, decide_eq_true h.2] at c0
    cases c0
  refine pnew_at H n (fun hb w1 H => ?_) fun g1 g2 bp bf w1 H => ?_
  · refine rpnew_at H n (fun _ rp w2 H => ?_) fun g1 g2 => absurd hb (by omega)
    refine brP_neg rfl ⟨fun _ s w' => s.1 = none ∧ Ext w w', ⟨0, fun w3 h3 => ⟨rfl, H.all.trans h3⟩⟩, ?_⟩
    rintro q ⟨pp, i, u⟩ w3 ⟨h1, h2⟩
    simp only at h1
    subst h1
    dsimp only
    refine brP_neg (by simp) (fin w3 h2)
  refine rpnew_at H n (fun hb => absurd hb (by omega)) fun _ _ rp rf w2 H => ?_
  refine brP_neg rfl ?_
  refine ⟨plI w rp rf n,
    ⟨60, fun w3 h3 => ⟨0, bp, bf, n.toNat, [], List.replicate n.toNat zD, rfl, rfl, rfl, by simp, (H.perm List.perm_append_comm (L' := [(bp, _), (bf, _)] ++ [(rp, _), (rf, _)])).ext h3⟩⟩, ?_⟩
  clear H
  rintro q ⟨pp, i', u⟩ w3 ⟨i, bp, bf, c, rest, ds, hi, hq, hpp, hd, H⟩
  simp only at hi hpp
  subst hi; subst hpp
  dsimp only
  refine brP_intro (fun cc => ?_) (fun cc => fin w3 H.all)
  have him : i < m ∧ i < 60 := by simp only [Bool.and_eq_true, decide_eq_true_eq] at cc; omega
  have hxi : xs[i]? = some xs[i] := List.getElem?_eq_getElem (by omega)
  have hwx := hxw xs[i] (List.getElem_mem (by omega))
  generalize xs[i] = x at hxi hwx
  obtain ⟨xk, xf, xt, xo, xb, xu⟩ := x
  have hb : -9223372036854775808 ≤ xb ∧ xb < 9223372036854775808 := i64_wf hwx.2.2.2.2.1
  have hs := hx.ext H.all
  have ix : p.isSome = true ∧ 0 ≤ (i : Int) ∧ (i : Int) < (m : Int) := ⟨(hs i _ hxi).1, by omega, by omega⟩
  have hnn : 1 ≤ n ∧ n ≤ 300 := by omega
  have hpos : 0 < n.toNat := by omega
  have hle : n.toNat ≤ 4096 := by omega
  refine ⟨ix, LdP.of (xk, xf, xt, xo, xb, ()) (hs i _ hxi).2 ?_⟩
  refine AlP.go H fun b w4 H => StP.all 0 H rfl rfl rfl fun w5 H => ⟨rfl, LdP.atA 0 H rfl rfl ?_⟩
  have next : ∀ (bp bf c : Nat) (rest : List Value) (ds : List DT), ds.length = n.toNat → ∀ w3, At [] w w3 [(b, [.int .i64 xk, .int .i64 xf, .int .i64 xt, .int .i64 xo, .int .i64 xb]), (bp, [.slice (some ⟨bf, 0, none⟩) n.toNat c]), (bf, flat eD ds ++ rest), (rp, [.slice (some ⟨rf, 0, none⟩) n.toNat n.toNat]), (rf, flat eD ds ++ [])] →
      ∃ n', n' < q ∧ plI w rp rf n n' (some ⟨bp, 0, none⟩, addI .i64 (i : Int) 1, ()) w3 := fun bp bf c rest ds hd w3 H =>
    ⟨q - 1, by omega, i + 1, bp, bf, c, rest, ds, by rw [addI_i64 (by omega) (by omega)]; rfl, by omega, rfl, hd, H.sub (List.sublist_cons_self _ _)⟩
  refine brP_intro (fun k0 => ?_) (fun k0 => ?_)
  · refine ⟨rfl, LdP.atA 0 H rfl rfl ⟨rfl, LdP.atA 0 H rfl rfl ?_⟩⟩
    refine take_at H 1 2 rfl rfl (by decide) hd.symm hpos hle xt xo fun w6 H => ⟨rfl, LdP.atA 0 H rfl rfl ⟨rfl, LdP.atA 0 H rfl rfl ?_⟩⟩
    refine rtake_at H 3 4 rfl rfl (by decide) hd.symm hpos hle xt xo fun w7 H => brP_neg (by simp) ?_
    have hd2 := (takeL_len ds xt xo).trans hd
    exact tail_ok (Post := fun b w' => b = true ∧ Ext w w') H hnn hd2 (next _ _ _ _ _ hd2)
  refine brP_intro (fun k1 => ?_) (fun k1 => ?_)
  · refine ⟨rfl, LdP.atA 0 H rfl rfl ⟨rfl, LdP.atA 0 H rfl rfl ?_⟩⟩
    refine give_at H 1 2 rfl rfl (by decide) hd.symm hpos hle xf fun w6 H => ⟨?_, trivial, ?_⟩
    · rw [addP_B]; exact elAt_rd (H.get (i := 0) rfl) rfl
    refine rgive_at H 3 4 rfl rfl (by decide) hd.symm hpos hle xf fun w7 H => brP_neg (by simp) ?_
    have hd2 := (chL_len ds xf (turnG 0 0)).trans hd
    exact tail_ok (Post := fun b w' => b = true ∧ Ext w w') H hnn hd2 (next _ _ _ _ _ hd2)
  have f2 : ∀ {w2 : World} {L : List (Nat × List Value)} {y : Int} {o : Nat}, At [] w w2 ((b, [.int .i64 xk, .int .i64 xf, .int .i64 xt, .int .i64 xo, .int .i64 xb]) :: L) → elAt [.int .i64 xk, .int .i64 xf, .int .i64 xt, .int .i64 xo, .int .i64 xb] (0 + o) (.one (.int .i64)) = some y → rdAt w2 (addP (some ⟨b, 0, none⟩) o) (.one (.int .i64)) y := fun H e => by
    rw [addP_B]; exact elAt_rd (H.get (i := 0) rfl) e
  refine brP_intro (fun k2 => ?_) (fun k2 => ?_)
  · refine ⟨rfl, LdP.atA 0 H rfl rfl ⟨rfl, LdP.atA 0 H rfl rfl ⟨rfl, LdP.atA 0 H rfl rfl ⟨rfl, LdP.atA 0 H rfl rfl ⟨rfl, LdP.atA 0 H rfl rfl ⟨rfl, LdP.atA 0 H rfl rfl ?_⟩⟩⟩⟩⟩⟩
    refine turn_at H 1 2 rfl rfl (by decide) hd.symm hpos hle xf xt xo fun w6 H => ⟨f2 H rfl, trivial, f2 H rfl, trivial, f2 H rfl, trivial, ?_⟩
    refine rturn_at H 3 4 rfl rfl (by decide) hd.symm hpos hle xf xt xo fun w7 H => brP_neg (by simp) ?_
    have hd2 := (chL_len ds xf (turnG xt xo)).trans hd
    exact tail_ok (Post := fun b w' => b = true ∧ Ext w w') H hnn hd2 (next _ _ _ _ _ hd2)
  refine brP_intro (fun k3 => ?_) (fun k3 => ?_)
  · refine ⟨rfl, LdP.atA 0 H rfl rfl ⟨rfl, LdP.atA 0 H rfl rfl ⟨rfl, LdP.atA 0 H rfl rfl ⟨rfl, LdP.atA 0 H rfl rfl ?_⟩⟩⟩⟩
    refine pref_at H 1 2 rfl rfl (by decide) hd.symm hpos hle xf xb hb fun w6 H => ⟨f2 H rfl, trivial, f2 H rfl, trivial, ?_⟩
    refine rpref_at H 3 4 rfl rfl (by decide) hd.symm hpos hle xf xb hb fun w7 H => brP_neg (by simp) ?_
    have hd2 := (chL_len ds xf (refG xb)).trans hd
    exact tail_ok (Post := fun b w' => b = true ∧ Ext w w') H hnn hd2 (next _ _ _ _ _ hd2)
  refine CaP.go H fun w6 H => copy_at H (H.get (i := 1) rfl) (H.get (i := 2) rfl) hd.symm hpos hle fun bp' bf' c' rest' w7 H => ?_
  refine take_at H 3 4 rfl rfl (by decide) hd.symm hpos hle 4 2 fun w8 H => ⟨rfl, LdP.atA 2 H rfl rfl ?_⟩
  refine give_at H 3 4 rfl rfl (by decide) (by rw [takeL_len]; exact hd.symm) hpos hle xf fun w9 H => brP_neg rfl ?_
  have H := H.perm (perm7 _ _ _ _ _ _ _).symm
  exact tail_ok (Post := fun b w' => b = true ∧ Ext w w') (H.sub (sub7 _ _ _ _ _ _ _)) hnn hd (next _ _ _ _ _ hd)
end Go.Proofs.Ytogndkmclingeaa
