import Derived.Test.YtcnaaobeooiojaaTC
import Derived.Test.YtcnaaobeooiojaaLift
namespace Go.Proofs.Ytcnaaobeooiojaa
set_option linter.unusedSimpArgs false
set_option linter.unusedVariables false
open Go.RX
theorem find_first {n : Nat} {f : Nat → Bool} {i : Nat} (hi : i < n) (h : f i = true) (hb : ∀ j, j < i → f j = false) : (List.range n).find? f = some i := by
  rw [List.find?_range_eq_some]
  exact ⟨h, List.mem_range.2 hi, fun j hj => by rw [hb j hj]; rfl⟩
theorem place_some {room : Int} {ps : List PT} {g : Int} {i : Nat} (hi : (i : Int) < room) (h : atX room ps g i = none) (hb : ∀ j : Nat, j < i → atX room ps g j ≠ none) : placeI room ps g = i := by
  unfold placeI
  rw [find_first (i := i) (by omega) (by rw [h]; rfl) fun j hj => by cases hx : atX room ps g j with | none => exact absurd hx (hb j hj) | some k => rfl]
theorem place_none {room : Int} {ps : List PT} {g : Int} (hb : ∀ j : Nat, (j : Int) < room → atX room ps g j ≠ none) : placeI room ps g = -1 := by
  unfold placeI
  have : (List.range room.toNat).find? (fun (i : Nat) => (atX room ps g i).isNone) = none := by
    rw [List.find?_eq_none]
    intro j hj
    have := List.mem_range.1 hj
    cases hx : atX room ps g j with
    | none => exact absurd hx (hb j (by omega))
    | some k => simp
  rw [this]
/-- a's ports in S wait for b; there are no others. -/
structure InW (n a b : Int) (S : Int → Prop) (ps : List PT) : Prop where
  ok : okS n ps
  yes : ∀ i, inR n a i = true → S i → gp ps a i = (1, b, 0, false, false, ())
  no : ∀ i, inR n a i = true → ¬ S i → gp ps a i = zP
  other : ∀ g i, inR n g i = true → g ≠ a → gp ps g i = zP
section
variable {n a b : Int} {S : Int → Prop} {ps : List PT}
theorem wNe (b : Int) : ((1, b, 0, false, false, ()) : PT) ≠ zP := fun e => by
  have := congrArg (fun x : PT => x.1) e
  simp [zP] at this
theorem InW.atS (h : InW n a b S ps) {i : Int} (hi : inR n a i = true) (hs : S i) : atX n ps a i = some (ix a i) := by
  rw [atX_eq hi, h.yes i hi hs, if_neg (wNe b)]
theorem InW.atN (h : InW n a b S ps) {i : Int} (hi : inR n a i = true) (hs : ¬ S i) : atX n ps a i = none := by
  rw [atX_eq hi, h.no i hi hs, if_pos rfl]
theorem InW.atO (h : InW n a b S ps) {g i : Int} (hg : g ≠ a) : atX n ps g i = none := by
  by_cases hi : inR n g i = true
  · rw [atX_eq hi, h.other g i hi hg, if_pos rfl]
  · exact atX_out hi
theorem InW.put (h : InW n a b S ps) {i : Int} (hi : inR n a i = true) : InW n a b (fun j => j = i ∨ S j) (ps.set (ix a i) (1, b, 0, false, false, ())) where
  ok := h.ok.set _ _
  yes j hj hs := by
    rw [gp_set h.ok hi hj]
    by_cases e : j = i
    · rw [if_pos ⟨rfl, e⟩]
    · rw [if_neg (fun c => e c.2)]; exact h.yes j hj (hs.resolve_left e)
  no j hj hs := by
    rw [gp_set h.ok hi hj, if_neg (fun c => hs (.inl c.2))]; exact h.no j hj (fun c => hs (.inr c))
  other g j hj hg := by
    rw [gp_set h.ok hi hj, if_neg (fun c => hg c.1)]; exact h.other g j hj hg
theorem InW.del (h : InW n a b S ps) {i : Int} (hi : inR n a i = true) : InW n a b (fun j => j ≠ i ∧ S j) (ps.set (ix a i) zP) where
  ok := h.ok.set _ _
  yes j hj hs := by
    rw [gp_set h.ok hi hj, if_neg (fun c => hs.1 c.2)]; exact h.yes j hj hs.2
  no j hj hs := by
    rw [gp_set h.ok hi hj]
    by_cases e : j = i
    · rw [if_pos ⟨rfl, e⟩]
    · rw [if_neg (fun c => e c.2)]; exact h.no j hj (fun c => hs ⟨e, c⟩)
  other g j hj hg := by
    rw [gp_set h.ok hi hj, if_neg (fun c => hg c.1)]; exact h.other g j hj hg
theorem InW.congr (h : InW n a b S ps) {S' : Int → Prop} (e : ∀ i, inR n a i = true → (S i ↔ S' i)) : InW n a b S' ps :=
  ⟨h.ok, fun i hi hs => h.yes i hi ((e i hi).2 hs), fun i hi hs => h.no i hi (fun c => hs ((e i hi).1 c)), h.other⟩
theorem InW.okT (h : InW n a b S ps) (hb : (1 ≤ b ∧ b ≤ 16) ∧ b ≠ a) : okT n ps where
  tookS := h.ok
  inv g i hi := by
    by_cases e : g = a
    · subst e
      by_cases hs : S i
      · rw [h.yes i hi hs]; exact .inr (.inl ⟨rfl, hb.1, hb.2, rfl⟩)
      · exact .inl (h.no i hi hs)
    · exact .inl (h.other g i hi e)
/-- b is dropped: all go. -/
theorem InW.drop1 (h : InW n a b S ps) (hb : b ≠ a) : ∀ i, drop1 n ps b i = (0, ps)
  | 0 => rfl
  | i + 1 => by
    have e := closeS_none (h.atO (g := b) (i := (i : Int)) hb)
    simp only [Go.Proofs.Ytcnaaobeooiojaa.drop1, h.drop1 hb i, e]
    rfl
theorem InW.dropR {c : Int} : ∀ (i : Nat), (i : Int) ≤ n → gI a = true → InW n a b (fun _ => True) ps → InW n a b (fun j => (i : Int) ≤ j) (dropR n b (c, ps) a i).2 ∧ (dropR n b (c, ps) a i).1 = c + i
  | 0, _, _, h => ⟨h.congr fun i hi => ⟨fun _ => by have := inR_iff.1 hi; omega, fun _ => trivial⟩, by simp [Go.Proofs.Ytcnaaobeooiojaa.dropR]⟩
  | i + 1, hi, ha, h => by
    obtain ⟨h1, h2⟩ := InW.dropR (c := c) i (by omega) ha h
    have hin : inR n a i = true := inR_iff.2 ⟨gI_iff.1 ha, by omega, by omega⟩
    simp only [Go.Proofs.Ytcnaaobeooiojaa.dropR]
    generalize Go.Proofs.Ytcnaaobeooiojaa.dropR n b (c, ps) a i = s at h1 h2
    have hx := h1.atS hin (Int.le_refl _)
    have hy : s.2.getD (ix a i) zP = (1, b, 0, false, false, ()) := h1.yes i hin (Int.le_refl _)
    have e : dropT n b s a i = (s.1 + 1, s.2.set (ix a i) zP) := by
      unfold dropT; rw [hx]
      simp only [hy, if_true]
    rw [e]
    refine ⟨(h1.del hin).congr fun j _ => ?_, by show s.1 + 1 = _; omega⟩
    show (j ≠ (i : Int) ∧ (i : Int) ≤ j) ↔ ((i + 1 : Nat) : Int) ≤ j
    omega
theorem dropR_none {g : Int} {s : Int × List PT} {k : Int} (h : ∀ i : Nat, atX n s.2 k i = none) : ∀ i, Go.Proofs.Ytcnaaobeooiojaa.dropR n g s k i = s
  | 0 => rfl
  | i + 1 => by
    simp only [Go.Proofs.Ytcnaaobeooiojaa.dropR, dropR_none h i]
    unfold dropT; rw [h i]
theorem InW.dropA (h : InW n a b (fun _ => True) ps) (ha : gI a = true) : ∀ k : Nat, ((k : Int) < a ∧ dropA n b (0, ps) k = (0, ps)) ∨ (a ≤ (k : Int) ∧ (dropA n b (0, ps) k).1 = n.toNat ∧ InW n a b (fun j => n ≤ j) (dropA n b (0, ps) k).2)
  | 0 => .inl ⟨by have := gI_iff.1 ha; omega, rfl⟩
  | k + 1 => by
    have hlo := h.ok.lo
    simp only [Go.Proofs.Ytcnaaobeooiojaa.dropA]
    rcases InW.dropA h ha k with ⟨h1, h2⟩ | ⟨h1, h2, h3⟩
    · rw [h2]
      by_cases e : (k : Int) + 1 = a
      · rw [e]
        obtain ⟨q1, q2⟩ := InW.dropR (c := 0) (ps := ps) n.toNat (by omega) ha h
        refine .inr ⟨by omega, by rw [q2]; omega, q1.congr fun i _ => by omega⟩
      · rw [dropR_none (fun i => h.atO e)]
        exact .inl ⟨by omega, rfl⟩
    · generalize Go.Proofs.Ytcnaaobeooiojaa.dropA n b (0, ps) k = s at h2 h3
      rw [dropR_none (fun i => h3.atO (by omega))]
      exact .inr ⟨by omega, h2, h3⟩
theorem InW.dropS (h : InW n a b (fun _ => True) ps) (ha : gI a = true) (hb : gI b = true) (hne : b ≠ a) : (dropS n ps b).1 = n.toNat := by
  unfold Go.Proofs.Ytcnaaobeooiojaa.dropS
  rw [if_pos hb, h.drop1 hne]
  rcases h.dropA ha 16 with ⟨h1, _⟩ | ⟨_, h2, _⟩
  · have := gI_iff.1 ha; omega
  · exact h2
theorem InW.zero (h1 : 1 ≤ n) (h2 : n ≤ 32) : InW n a b (fun _ => False) k0 where
  ok := (okT_zero h1 h2).tookS
  yes i _ hs := hs.elim
  no i hi _ := by
    rcases (okT_zero h1 h2).inv a i hi with z | z | z
    · exact z
    · exact absurd z.1 (by unfold gp k0; rw [List.getD_eq_getElem?_getD, List.getElem?_replicate]; split <;> decide)
    · exact absurd z.1 (by unfold gp k0; rw [List.getD_eq_getElem?_getD, List.getElem?_replicate]; split <;> decide)
  other g i hi _ := by
    unfold gp k0
    rw [List.getD_eq_getElem?_getD, List.getElem?_replicate]
    split <;> rfl
theorem openS_free (ht : twoE a b = 0) {i : Int} (hp : placeI n ps a = i) (hi : i ≠ -1) : openS n ps a b = ((i, 0), ps.set (ix a i) (1, b, 0, false, false, ())) := by
  unfold openS layS
  rw [if_pos ht, hp, if_neg hi]
theorem openS_full (ht : twoE a b = 0) (hp : placeI n ps a = -1) : openS n ps a b = ((0, 3), ps) := by
  unfold openS layS
  rw [if_pos ht, hp, if_pos rfl]
end
theorem tfull_row (r : Int) (hr : (Lit.int .u8 r).wf = true) (xx : ScsT [.int .u8, .int .u8]) (hxx : okScs [.int .u8, .int .u8] xx) (c : Int) (hc : (Lit.int .u8 c).wf = true) (w : World) :
    CallsR Try.prog 8 (.el (.one .bool)) [.int .u8 r, .agg ⟨scsEmb _ xx⟩, .int .u8 c] w (fun b w' => b = true ∧ Ext w w') := by
  obtain ⟨x, y, u⟩ := xx
  have hx := u8_rng hxx.1
  have hy := u8_rng hxx.2.1
  have hr' := u8_rng hr
  have hc' := u8_rng hc
  refine rxFn_ok (C := R2) (ann := tfull_vc_ann) (Eq.mpr (tfull_vc r x y c w _) ?_)
  have cv : ∀ z : Int, 0 ≤ z ∧ z < 256 → convI .i64 z = z := fun z hz => wrap_i64_id (by omega) (by omega)
  have rm : ∀ z d : Int, 0 ≤ z ∧ z < 256 → remI z d = z % d := fun z d hz => by unfold remI; exact Int.tmod_eq_emod_of_nonneg hz.1
  have ad : ∀ z : Int, 0 ≤ z ∧ z < 256 → addI .i64 1 z = 1 + z := fun z hz => addI_i64 (by omega) (by omega)
  have en : addI .i64 1 (remI (convI .i64 r) 32) = 1 + r % 32 := by rw [cv r hr', rm r 32 hr', ad _ (by omega)]
  have ea : addI .i64 1 (remI (convI .i64 x) 16) = 1 + x % 16 := by rw [cv x hx, rm x 16 hx, ad _ (by omega)]
  have eb : addI .i64 1 (remI (convI .i64 y) 16) = 1 + y % 16 := by rw [cv y hy, rm y 16 hy, ad _ (by omega)]
  rw [en]
  obtain ⟨n, hn⟩ : ∃ n, n = 1 + r % 32 := ⟨_, rfl⟩
  rw [← hn, cv c hc', rm c n hc']
  have hn1 : 1 ≤ n ∧ n ≤ 32 := by omega
  have H := At.start [] w
  refine AlP.go H fun bx w1 H => ?_
  refine pnewp_at H n (fun h => absurd h (by omega)) fun _ _ bp w2 H => ⟨⟨rfl, by omega, by omega⟩, LdP.atA 1 H rfl rfl ⟨⟨rfl, by omega, by omega⟩, LdP.atA 1 H rfl rfl (brP_neg rfl ?_)⟩⟩
  dsimp only
  rw [ea, eb]
  obtain ⟨a, ha⟩ : ∃ a : Int, a = 1 + (x : Int) % 16 := ⟨_, rfl⟩
  obtain ⟨b, hb⟩ : ∃ b : Int, b = 1 + (y : Int) % 16 := ⟨_, rfl⟩
  rw [← ha, ← hb]
  have ha1 : 1 ≤ a ∧ a ≤ 16 := by omega
  have hb1 : 1 ≤ b ∧ b ≤ 16 := by omega
  have hT0 := okT_zero hn1.1 hn1.2
  have H := H.sub (L' := [(bp, pcs n k0)]) (List.sublist_append_left [_] [_])
  refine brP_intro (fun c1 => ?_) (fun c1 => ?_)
  · have hab : a = b := by simpa using c1
    subst hab
    have e1 : openS n k0 a a = ((0, 1), k0) := by
      unfold openS twoE
      simp
    refine popen_at H 0 rfl hT0.tookS a a fun w3 H => ?_
    rw [e1] at H ⊢
    exact brP_pos rfl (CaP.val H (s := .el (.one .bool)) true (fun w3 H => tknown_ok w3) fun w4 H => EnP.go H fun w5 H => ⟨rfl, H.all⟩)
  have hab : a ≠ b := by simpa using c1
  have hga : gI a = true := gI_iff.2 ha1
  have hgb : gI b = true := gI_iff.2 hb1
  have ht : twoE a b = 0 := two_iff.2 ⟨hga, hgb, hab⟩
  refine ⟨fun q s w' => ∃ (i : Nat) (ps : List PT), s.1 = i ∧ (q : Int) + i = n ∧ InW n a b (fun j => j < (i : Int)) ps ∧ At [] w w' [(bp, pcs n ps)],
    ⟨n.toNat, fun w3 h3 => ⟨0, k0, rfl, by omega, (InW.zero hn1.1 hn1.2).congr fun i hi => ⟨fun h => h.elim, fun h => by have := inR_iff.1 hi; omega⟩, H.ext h3⟩⟩, ?_⟩
  clear H
  rintro q ⟨i', u⟩ w3 ⟨i, ps, hi, hq, hW, H⟩
  simp only at hi
  subst hi
  dsimp only
  have inr : ∀ j : Nat, (j : Int) < n → inR n a j = true := fun j hj => inR_iff.2 ⟨ha1, by omega, hj⟩
  refine brP_intro (fun c2 => ?_) (fun c2 => ?_)
  · have hlt : (i : Int) < n := by simpa using c2
    have hp : placeI n ps a = i := place_some hlt (hW.atN (inr i hlt) (by omega)) fun j hj => by rw [hW.atS (inr j (by omega)) (by omega)]; simp
    have e1 := openS_free (b := b) ht hp (by omega)
    refine popen_at H 0 rfl hW.ok a b fun w4 H => ?_
    rw [e1] at H ⊢
    refine brP_neg (by simp) fun w5 h5 => ⟨q - 1, by omega, i + 1, _, by rw [addI_i64 (by omega) (by omega)]; rfl, by omega, (hW.put (inr i hlt)).congr fun j _ => by show (j = (i : Int) ∨ j < (i : Int)) ↔ j < ((i + 1 : Nat) : Int); omega, H.ext h5⟩
  have hin : (i : Int) = n := by simp at c2; omega
  rw [hin] at hW
  have hW : InW n a b (fun _ => True) ps := hW.congr fun j hj => ⟨fun _ => trivial, fun _ => (inR_iff.1 hj).2.2⟩
  have hp : placeI n ps a = -1 := place_none fun j hj => by rw [hW.atS (inr j hj) trivial]; simp
  have e1 := openS_full (b := b) ht hp
  refine ⟨by omega, popen_at H 0 rfl hW.ok a b fun w4 H => ?_⟩
  rw [e1] at H ⊢
  have hTW := hW.okT ⟨hb1, fun e => hab e.symm⟩
  obtain ⟨k, hk⟩ : ∃ k, k = c % n := ⟨_, rfl⟩
  rw [← hk]
  have hk1 : 0 ≤ k ∧ k < n := by rw [hk]; exact ⟨Int.emod_nonneg _ (by omega), Int.emod_lt_of_pos _ (by omega)⟩
  have hkn : inR n a k = true := inR_iff.2 ⟨ha1, hk1.1, hk1.2⟩
  have e2 : closeS n ps a k = (0, ps.set (ix a k) zP) := by
    rw [closeS_some (hW.atS hkn trivial)]
    have : ps.getD (ix a k) zP = (1, b, 0, false, false, ()) := hW.yes k hkn trivial
    rw [this, if_neg (show ¬ (1 : Int) = 2 by decide)]
  refine pclose_at H 0 rfl hTW a k fun w5 H => ?_
  rw [e2] at H ⊢
  have hW2 := hW.del hkn
  have hp2 : placeI n (ps.set (ix a k) zP) a = k := by
    have := place_some (room := n) (ps := ps.set (ix a k) zP) (g := a) (i := k.toNat) (by omega) (by
      rw [show ((k.toNat : Nat) : Int) = k by omega]
      exact hW2.atN hkn (fun c => c.1 rfl)) fun j hj => by
        rw [hW2.atS (inr j (by omega)) ⟨by omega, trivial⟩]; simp
    rw [this]; omega
  have e3 := openS_free (b := b) ht hp2 (by omega)
  refine popen_at H 0 rfl hW2.ok a b fun w6 H => ?_
  rw [e3] at H ⊢
  have hW3 : InW n a b (fun _ => True) ((ps.set (ix a k) zP).set (ix a k) (1, b, 0, false, false, ())) := (hW2.put hkn).congr fun j _ => ⟨fun _ => trivial, fun _ => by
    by_cases e : j = k
    · exact .inl e
    · exact .inr ⟨e, trivial⟩⟩
  refine brP_pos (by simp) ?_
  refine pdrop_at H 0 rfl (hW3.okT ⟨hb1, fun e => hab e.symm⟩) b fun w7 H => ?_
  have e4 := hW3.dropS hga hgb (fun e => hab e.symm)
  refine brP_pos (by rw [e4]; simp; omega) (CaP.val H (s := .el (.one .bool)) true (fun w3 H => tknown_ok w3) fun w4 H => EnP.go H fun w5 H => ⟨rfl, H.all⟩)
end Go.Proofs.Ytcnaaobeooiojaa
