import Derived.Test.YtkldededdgpmbaaGreatMD
namespace Go.Proofs.YtkldededdgpmbaaGreat
set_option linter.unusedSimpArgs false
set_option linter.unusedVariables false
set_option maxRecDepth 100000
open Go.RX D
/-! ### What lies in tables: pages' digits, entries, words, frames -/
def px : Nat → Int → Int
  | 0, p => p
  | l + 1, p => px l p / 16
theorem px_rng {p : Int} (h : 0 ≤ p ∧ p < 65536) : ∀ l, 0 ≤ px l p ∧ px l p < 65536
  | 0 => h
  | l + 1 => by have := px_rng h l; simp only [px]; omega
theorem px4 {p : Int} (h : 0 ≤ p ∧ p < 65536) : px 4 p = 0 := by simp only [px]; omega
theorem px_step (p : Int) (l : Nat) : px l p = 16 * px (l + 1) p + px l p % 16 := by simp only [px]; omega
theorem px_i (p : Int) (l : Nat) : 0 ≤ px l p % 16 ∧ px l p % 16 < 16 := by omega
theorem idx_px {p : Int} (h : 0 ≤ p ∧ p < 65536) {l : Nat} (hl : l ≤ 3) : indexI p (l : Int) = px l p % 16 := by
  unfold indexI
  rw [if_pos (by omega)]
  congr 1
  rcases l with _ | _ | _ | _ | l
  · show p / 1 = p; omega
  · rfl
  · show p / 256 = p / 16 / 16; omega
  · show p / 4096 = p / 16 / 16 / 16; omega
  · omega
theorem at_px {f p : Int} (hf : 0 ≤ f ∧ f < 4096) (h : 0 ≤ p ∧ p < 65536) {l : Nat} (hl : l ≤ 3) : atI f p (l : Int) = 16 * f + px l p % 16 := by
  unfold atI
  rw [idx_px h hl, if_neg (by omega)]
theorem entV0 : entV 0 = zE := by decide +kernel
theorem tab0 : tabP zE = false := by decide
theorem entV_right (v : Int) : rightE (entV v).1 (entV v).2.1 (entV v).2.2.1 (entV v).2.2.2.1 = true := by
  unfold entV prP prR prL prF
  cases h : okV (B v).toNat with
  | false => simp; decide
  | true =>
    unfold okV at h
    simp only [Bool.and_eq_true] at h
    simpa using h.2
theorem entV_pk {p : Bool} {r : Int} {l : Bool} {f : Int} (h : rightE p r l f = true) : entV (pkW p r l f) = (p, r, l, f, ()) := by
  have hb := right_bd h
  unfold pkW
  rw [if_pos h]
  obtain ⟨h1, h2, h3, h4, h5⟩ := hb
  obtain ⟨r, rfl⟩ := Int.eq_ofNat_of_zero_le h1
  obtain ⟨f, rfl⟩ := Int.eq_ofNat_of_zero_le h3
  have key : ∀ n : Nat, wordI p (r : Int) l (f : Int) = (n : Int) → n < 18446744073709551616 → (n % 2 == 1) = p → n / 2 % 8 = r → (n / 16 % 2 == 1) = l → n / 32 % 128 = 0 → n / 4096 % 4096 = f → n / 16777216 % 1099511627776 = 0 → entV (wordI p (r : Int) l (f : Int)) = (p, (r : Int), l, (f : Int), ()) := by
    intro n e hn e1 e2 e3 e4 e5 e6
    have hB : (B (wordI p (r : Int) l (f : Int))).toNat = n := by rw [e, B_nat (by omega) (by omega)]; omega
    have ok : okV n = true := by
      unfold okV
      rw [e4, e6, e1, e2, e3, e5, h]
      decide
    unfold entV prP prR prL prF
    rw [hB, ok, e1, e2, e3, e5]
    simp
  cases p with
  | false =>
    obtain ⟨a, b, c⟩ := h5 rfl
    subst b
    have hr : r = 0 := by omega
    have hf : f = 0 := by omega
    subst hr; subst hf
    exact key 0 rfl (by decide) rfl rfl rfl rfl rfl rfl
  | true =>
    have hl : nB l ≤ 1 := nB_le l
    refine key (1 + 2 * r + 16 * nB l + 4096 * f) ?_ (by omega) ?_ (by omega) ?_ (by omega) (by omega) (by omega)
    · unfold wordI
      have : nB true = 1 := rfl
      rw [this]; omega
    · have : (1 + 2 * r + 16 * nB l + 4096 * f) % 2 = 1 := by omega
      rw [this]; rfl
    · have : (1 + 2 * r + 16 * nB l + 4096 * f) / 16 % 2 = nB l := by omega
      rw [this]; cases l <;> rfl
theorem entA_right (ws : List Int) (a : Int) : rightE (entA ws a).1 (entA ws a).2.1 (entA ws a).2.2.1 (entA ws a).2.2.2.1 = true := entV_right _
theorem tab_lead {ws : List Int} {a : Int} (h : tabP (entA ws a) = true) : entA ws a = leadP (entA ws a).2.2.2.1 := by
  have hr := entA_right ws a
  generalize entA ws a = e at *
  obtain ⟨p, r, l, f, u⟩ := e
  unfold tabP tableE at h
  simp only [Bool.and_eq_true, beq_iff_eq] at h
  obtain ⟨⟨h1, h2⟩, h3⟩ := h
  subst h1; subst h2
  have : l = false := by
    unfold rightE at h3
    cases l with
    | false => rfl
    | true => simp at h3
  subst this
  rfl
theorem lead_tab {f : Int} (h : 0 ≤ f ∧ f < 4096) : tabP (leadP f) = true := by
  unfold tabP leadP tableE rightE
  simp
  omega
theorem lead_right {f : Int} (h : 0 ≤ f ∧ f < 4096) : rightE true 0 false f = true := by
  unfold rightE
  simp
  omega
theorem lead_ent {f : Int} (h : 0 ≤ f ∧ f < 4096) : entV (pkP (leadP f)) = leadP f := entV_pk (lead_right h)
theorem inM_rng {ws : List Int} {i : Int} (h : 0 ≤ i) (h' : i < ws.length) : inM ws i = true := inM_iff.2 ⟨h, h'⟩
theorem ld_self {ws : List Int} {a v : Int} (h : inM ws a = true) : ldV (stL ws a v) a = v := by
  have hi := inM_iff.1 h
  have h2 : inM (stL ws a v) a = true := inM_iff.2 ⟨hi.1, by rw [stL_len]; exact hi.2⟩
  unfold ldV
  rw [if_pos h2]
  unfold stL
  rw [if_pos h, List.getD_eq_getElem?_getD, List.getElem?_set_self (by omega)]
  rfl
theorem ld_ne {ws : List Int} {a b v : Int} (h : a ≠ b) : ldV (stL ws a v) b = ldV ws b := by
  have e : inM (stL ws a v) b = inM ws b := by unfold inM; rw [stL_len]
  unfold ldV
  rw [e]
  by_cases hb : inM ws b = true
  · rw [if_pos hb, if_pos hb]
    unfold stL
    split
    · rename_i ha
      have h1 := inM_iff.1 ha
      have h2 := inM_iff.1 hb
      rw [List.getD_eq_getElem?_getD, List.getD_eq_getElem?_getD, List.getElem?_set_ne (by omega)]
    · rfl
  · rw [if_neg hb, if_neg hb]
theorem ld_fill {ws : List Int} {f : Int} {G : Int → Int} (hf : 0 ≤ f) (hl : 16 * f + 16 ≤ ws.length) : ∀ n : Nat, n ≤ 16 → ∀ b, ldV (fillL ws f G n) b = if 16 * f ≤ b ∧ b < 16 * f + (n : Int) then G (b - 16 * f) else ldV ws b
  | 0, _, b => by rw [if_neg (by omega)]; rfl
  | n + 1, hn, b => by
    rw [fillL]
    by_cases e : 16 * f + (n : Int) = b
    · subst e
      rw [ld_self (inM_rng (by omega) (by rw [fillL_len]; omega)), if_pos (by omega)]
      congr 1; omega
    · rw [ld_ne e, ld_fill hf hl n (by omega) b]
      by_cases h : 16 * f ≤ b ∧ b < 16 * f + (n : Int)
      · rw [if_pos h, if_pos (by omega)]
      · rw [if_neg h, if_neg (by omega)]
theorem free_pos {ds : List DT} (h : 0 < cntL ds 0) : ∃ i d, freeI ds = some i ∧ i < ds.length ∧ ds[i]? = some d ∧ d.1 = 0 := by
  unfold cntL at h
  rw [List.countP_pos_iff] at h
  obtain ⟨a, ha, h0⟩ := h
  cases hf : freeI ds with
  | none =>
    unfold freeI at hf
    rw [List.findIdx?_eq_none_iff] at hf
    have := hf a ha
    rw [this] at h0; cases h0
  | some i =>
    unfold freeI at hf
    rw [List.findIdx?_eq_some_iff_getElem] at hf
    obtain ⟨h1, h2, _⟩ := hf
    exact ⟨i, ds[i], rfl, h1, List.getElem?_eq_getElem h1, by simpa using h2⟩
theorem next_free {o : Int} (h : 1 ≤ o ∧ o ≤ 16) : turnG 3 o zD = ((3, o, 0, 0, ()), 0) := by
  have e : nextE 0 0 0 0 3 o = 0 := by
    unfold nextE
    rw [if_neg (by decide), if_neg (by decide), if_pos (by decide), if_neg ?_]
    unfold rightD rightP
    simp
    omega
  unfold turnG zD nextK nextO
  dsimp only
  rw [e]
  simp
theorem take_free {ds : List DT} {o : Int} (h : 0 < cntL ds 0) (hz : ∀ d ∈ ds, d.1 = 0 → d = zD) (ho : 1 ≤ o ∧ o ≤ 16) : ∃ i : Nat, i < ds.length ∧ ds[i]? = some zD ∧ takeF ds 3 o = (i : Int) ∧ takeE ds 3 o = 0 ∧ takeL ds 3 o = ds.set i (3, o, 0, 0, ()) := by
  obtain ⟨i, d, h1, h2, h3, h4⟩ := free_pos h
  have hd : d = zD := hz d (List.mem_of_getElem? h3) h4
  subst hd
  have hg : ds.getD i zD = zD := by rw [List.getD_eq_getElem?_getD, h3]; rfl
  have e1 : chE ds (i : Int) (turnG 3 o) = 0 := by
    rw [chE_in (by omega)]
    show (turnG 3 o (ds.getD i zD)).2 = 0
    rw [hg, next_free ho]
  have e2 : chL ds (i : Int) (turnG 3 o) = ds.set i (3, o, 0, 0, ()) := by
    rw [chL_in (by omega)]
    show (if (turnG 3 o (ds.getD i zD)).2 = 0 then ds.set i (turnG 3 o (ds.getD i zD)).1 else ds) = _
    rw [hg, next_free ho, if_pos rfl]
  refine ⟨i, h2, h3, ?_, ?_, ?_⟩
  · unfold takeF; rw [h1]; dsimp only; rw [if_pos e1]
  · unfold takeE; rw [if_neg (by omega), h1]; exact e1
  · unfold takeL; rw [h1]; exact e2
theorem cnt_set {ds : List DT} {i : Nat} {d d' : DT} (h : ds[i]? = some d) (v : Int) : cntL (ds.set i d') v + (if d.1 = v then 1 else 0) = cntL ds v + (if d'.1 = v then 1 else 0) := by
  have hi : i < ds.length := (List.getElem?_eq_some_iff.1 h).1
  have e1 : ds = ds.take i ++ d :: ds.drop (i + 1) := by
    have := (List.take_append_drop i ds).symm
    rw [List.drop_eq_getElem_cons hi, (List.getElem?_eq_some_iff.1 h).2] at this
    exact this
  have e2 : ds.set i d' = ds.take i ++ d' :: ds.drop (i + 1) := by rw [List.set_eq_take_append_cons_drop, if_pos hi]
  unfold cntL
  rw [e2]
  conv => rhs; rw [e1]
  simp only [List.countP_append, List.countP_cons]
  by_cases h1 : d.1 = v <;> by_cases h2 : d'.1 = v <;> simp [h1, h2] <;> omega
theorem turn_tab {o : Int} (h : 1 ≤ o ∧ o ≤ 16) : turnG 5 0 (3, o, 0, 0, ()) = ((5, o, 0, 0, ()), 0) := by
  have r1 : rightD 3 o 0 0 = true := by unfold rightD rightP; simp; omega
  have r2 : rightD 5 o 0 0 = true := by unfold rightD rightP; simp; omega
  have e : nextE 3 o 0 0 5 0 = 0 := by
    unfold nextE
    rw [r1, if_neg (by decide), if_neg (by decide), if_pos (by decide), if_pos rfl, r2, if_neg (by decide)]
  unfold turnG nextK nextO
  dsimp only
  rw [e]
  simp
end Go.Proofs.YtkldededdgpmbaaGreat
namespace Go.Proofs.YtkldededdgpmbaaGreat
set_option linter.unusedSimpArgs false
set_option linter.unusedVariables false
set_option maxRecDepth 100000
open Go.RX D
/-! ### A forest of tables -/
/-- Whose table a frame is, of which level, and above which digits. -/
abbrev Gh : Type := Int → Option (Int × Nat × Int)
def setG (g : Gh) (f : Int) (v : Option (Int × Nat × Int)) : Gh := fun x => if x = f then v else g x
theorem setG_self (g : Gh) (f : Int) (v : Option (Int × Nat × Int)) : setG g f v f = v := if_pos rfl
theorem setG_ne {g : Gh} {f x : Int} (h : x ≠ f) (v : Option (Int × Nat × Int)) : setG g f v x = g x := if_neg h
/-- What an entry of a level may be. -/
def LeafOk (l : Nat) (e : ET) : Prop := e.1 = true → tabP e = false → (l = 0 ∧ e.2.2.1 = false) ∨ (l = 1 ∧ e.2.2.1 = true ∧ e.2.2.2.1 % 16 = 0)
theorem leaf0 (l : Nat) : LeafOk l zE := fun h => by cases h
theorem leafT (l : Nat) {e : ET} (h : tabP e = true) : LeafOk l e := fun _ h' => by rw [h] at h'; cases h'
structure Inv (g : Gh) (s : WD) : Prop where
  len : 16 * s.2.length ≤ s.1.length
  le : s.2.length ≤ 4096
  fz : ∀ d ∈ s.2, d.1 = 0 → d = zD
  kd : ∀ {f o l x}, g f = some (o, l, x) → 0 ≤ f ∧ f < s.2.length ∧ s.2[f.toNat]? = some (3, o, 0, 0, ()) ∧ 1 ≤ o ∧ o ≤ 16 ∧ l ≤ 3
  inj : ∀ {f f' v}, g f = some v → g f' = some v → f = f'
  tab : ∀ {f o l x i}, g f = some (o, l, x) → 0 ≤ i → i < 16 → tabP (entA s.1 (16 * f + i)) = true → ∃ m, l = m + 1 ∧ g (entA s.1 (16 * f + i)).2.2.2.1 = some (o, m, 16 * x + i)
  leaf : ∀ {f o l x i}, g f = some (o, l, x) → 0 ≤ i → i < 16 → LeafOk l (entA s.1 (16 * f + i))
  par : ∀ {f o l x}, g f = some (o, l, x) → l < 3 → ∃ f', g f' = some (o, l + 1, x / 16) ∧ entA s.1 (16 * f' + x % 16) = leadP f
  wf : ∀ {f o l x i}, g f = some (o, l, x) → 0 ≤ i → i < 16 → (entA s.1 (16 * f + i)).1 = false → ldV s.1 (16 * f + i) = 0
  tb : ∀ {n : Nat} {d}, s.2[n]? = some d → d.1 = 3 → ∃ v, g (n : Int) = some v
/-- The end of a page's way. -/
def EndAt (g : Gh) (s : WD) (o p f : Int) (j : Nat) : Prop := g f = some (o, j, px (j + 1) p) ∧ tabP (entA s.1 (16 * f + px j p % 16)) = false
theorem ent_st {ws : List Int} {a v b : Int} (h : a ≠ b) : entA (stL ws a v) b = entA ws b := by unfold entA; rw [ld_ne h]
theorem ent_self {ws : List Int} {a v : Int} (h : inM ws a = true) : entA (stL ws a v) a = entV v := by unfold entA; rw [ld_self h]
namespace Inv
variable {g : Gh} {s : WD}
theorem rng (I : Inv g s) {f o : Int} {l : Nat} {x : Int} (h : g f = some (o, l, x)) : 0 ≤ f ∧ f < 4096 ∧ 16 * f + 16 ≤ s.1.length := by
  have := I.kd h
  have := I.len
  have := I.le
  omega
/-- The way of a page goes through the frames that are above its digits. -/
theorem reach (I : Inv g s) {o r p : Int} (hr : g r = some (o, 3, 0)) (hp : 0 ≤ p ∧ p < 65536) : ∀ (n : Nat) {f : Int} {j : Nat}, j + n = 3 → g f = some (o, j, px (j + 1) p) → ∃ a, wayL s.1 p 3 r = a ++ wayL s.1 p j f
  | 0, f, j, hj, h => by
    have : j = 3 := by omega
    subst this
    rw [px4 hp] at h
    rw [I.inj h hr]
    exact ⟨[], rfl⟩
  | n + 1, f, j, hj, h => by
    obtain ⟨f', h1, h2⟩ := I.par h (by omega)
    have h1' : g f' = some (o, j + 1, px (j + 1 + 1) p) := h1
    obtain ⟨a, ha⟩ := I.reach hr hp n (by omega) h1'
    obtain ⟨b1, b2, _⟩ := I.rng h1
    refine ⟨a ++ [(f', ((j + 1 : Nat) : Int), atI f' p ((j + 1 : Nat) : Int), ())], ?_⟩
    have ej : j + 1 ≤ 3 := by omega
    have e : wayL s.1 p (j + 1) f' = (f', ((j + 1 : Nat) : Int), atI f' p ((j + 1 : Nat) : Int), ()) :: wayL s.1 p j f := by
      rw [wayL]
      congr 1
      have e2 : entA s.1 (atI f' p ((j + 1 : Nat) : Int)) = leadP f := by rw [at_px ⟨b1, b2⟩ hp ej]; exact h2
      obtain ⟨c1, c2, _⟩ := I.rng h
      rw [e2, if_pos (lead_tab ⟨c1, c2⟩)]
      rfl
    rw [ha, e, List.append_assoc]; rfl
theorem way1 {ws : List Int} {p f : Int} {j : Nat} (h : tabP (entA ws (atI f p (j : Int))) = false) : wayL ws p j f = [(f, (j : Int), atI f p (j : Int), ())] := by
  cases j with
  | zero => rfl
  | succ j => rw [wayL, h, if_neg (by decide)]
theorem endX_of (I : Inv g s) {o r p : Int} (hr : g r = some (o, 3, 0)) (hp : 0 ≤ p ∧ p < 65536) {f : Int} {j : Nat} (h : EndAt g s o p f j) :
    endX s.1 r p = (f, (j : Int), 16 * f + px j p % 16, ()) ∧ endP s.1 r p = entA s.1 (16 * f + px j p % 16) := by
  have hk := I.kd h.1
  obtain ⟨b1, b2, _⟩ := I.rng h.1
  obtain ⟨a, ha⟩ := I.reach hr hp (3 - j) (by omega) h.1
  have ea := at_px ⟨b1, b2⟩ hp hk.2.2.2.2.2
  have e1 : endX s.1 r p = (f, (j : Int), 16 * f + px j p % 16, ()) := by
    unfold endX
    rw [ha, way1 (by rw [ea]; exact h.2), ea, List.getLastD_concat]
  exact ⟨e1, by unfold endP; rw [e1]⟩
theorem end_ex (I : Inv g s) {o p : Int} : ∀ (l : Nat) {f : Int}, g f = some (o, l, px (l + 1) p) → ∃ f' j, j ≤ l ∧ EndAt g s o p f' j
  | l, f, h => by
    cases ht : tabP (entA s.1 (16 * f + px l p % 16)) with
    | false => exact ⟨f, l, Nat.le_refl _, h, ht⟩
    | true =>
      obtain ⟨m, rfl, hm⟩ := I.tab h (px_i p l).1 (px_i p l).2 ht
      rw [← px_step] at hm
      obtain ⟨f', j, hj, he⟩ := I.end_ex m hm
      exact ⟨f', j, by omega, he⟩
theorem end_at (I : Inv g s) {o r p : Int} (hr : g r = some (o, 3, 0)) (hp : 0 ≤ p ∧ p < 65536) : ∃ f j, j ≤ 3 ∧ EndAt g s o p f j := I.end_ex 3 (by rw [px4 hp]; exact hr)
theorem end_uniq (I : Inv g s) {o r p : Int} (hr : g r = some (o, 3, 0)) (hp : 0 ≤ p ∧ p < 65536) {f f' : Int} {j j' : Nat} (h : EndAt g s o p f j) (h' : EndAt g s o p f' j') : f = f' ∧ j = j' := by
  have e1 := (I.endX_of hr hp h).1
  rw [(I.endX_of hr hp h').1] at e1
  simp only [Prod.mk.injEq] at e1
  omega
/-- A table is added. -/
theorem grow (I : Inv g s) {f o x i : Int} {m : Nat} (hf : g f = some (o, m + 1, x)) (hi0 : 0 ≤ i) (hi1 : i < 16) (hn : tabP (entA s.1 (16 * f + i)) = false) (hc : 0 < cntL s.2 0) (G : Int → Int)
    (hG : ∀ k, 0 ≤ k → k < 16 → tabP (entV (G k)) = false ∧ LeafOk m (entV (G k)) ∧ ((entV (G k)).1 = false → G k = 0)) :
    tkE s o = 0 ∧ g (tkF s o) = none ∧ 0 ≤ tkF s o ∧ tkF s o < s.2.length ∧ (layS (tkS s o G) (16 * f + i) (leadP (tkF s o))).2 = s.2.set (tkF s o).toNat (3, o, 0, 0, ()) ∧ s.2[(tkF s o).toNat]? = some zD ∧
    (∀ b, b ≠ 16 * f + i → (b < 16 * tkF s o ∨ 16 * tkF s o + 16 ≤ b) → entA (layS (tkS s o G) (16 * f + i) (leadP (tkF s o))).1 b = entA s.1 b) ∧
    (∀ k, 0 ≤ k → k < 16 → entA (layS (tkS s o G) (16 * f + i) (leadP (tkF s o))).1 (16 * tkF s o + k) = entV (G k)) ∧
    entA (layS (tkS s o G) (16 * f + i) (leadP (tkF s o))).1 (16 * f + i) = leadP (tkF s o) ∧
    Inv (setG g (tkF s o) (some (o, m, 16 * x + i))) (layS (tkS s o G) (16 * f + i) (leadP (tkF s o))) := by
  have hk := I.kd hf
  obtain ⟨n, hn1, hn2, e1, e2, e3⟩ := take_free hc I.fz ⟨hk.2.2.2.1, hk.2.2.2.2.1⟩
  have eF : tkF s o = (n : Int) := e1
  have eE : tkE s o = 0 := e2
  have hlen := I.len
  have hle := I.le
  have hlen' : 16 * (n : Int) + 16 ≤ s.1.length := by omega
  obtain ⟨W, hW⟩ : ∃ W, W = fillL s.1 (n : Int) G 16 := ⟨_, rfl⟩
  have hWl : W.length = s.1.length := by rw [hW, fillL_len]
  have hWd : ∀ b, ldV W b = if 16 * (n : Int) ≤ b ∧ b < 16 * (n : Int) + 16 then G (b - 16 * (n : Int)) else ldV s.1 b := fun b => by
    rw [hW]; exact ld_fill (by omega) hlen' 16 (Nat.le_refl _) b
  have eS : tkS s o G = (W, s.2.set n (3, o, 0, 0, ())) := by unfold tkS; rw [if_pos eE, eF, e3, hW]
  clear hW
  have hfr := I.rng hf
  have gn : g (n : Int) = none := by
    cases hg : g (n : Int) with
    | none => rfl
    | some v =>
      obtain ⟨a, b, c⟩ := v
      have := (I.kd hg).2.2.1
      rw [show ((n : Int)).toNat = n from rfl, hn2] at this
      cases this
  have hne : ∀ {f' : Int} {v}, g f' = some v → f' ≠ (n : Int) := fun h e => by rw [e, gn] at h; cases h
  have hfn : f ≠ (n : Int) := hne hf
  rw [eS, eF]
  have ein : inM (W) (16 * f + i) = true := inM_rng (by omega) (by rw [hWl]; omega)
  have v0 : ∀ b, b ≠ 16 * f + i → ldV (stL (W) (16 * f + i) (pkP (leadP (n : Int)))) b = if 16 * (n : Int) ≤ b ∧ b < 16 * (n : Int) + 16 then G (b - 16 * (n : Int)) else ldV s.1 b := fun b hb => by
    rw [ld_ne (fun e => hb e.symm), hWd b]
  have w0 : ∀ b, b ≠ 16 * f + i → entA (stL (W) (16 * f + i) (pkP (leadP (n : Int)))) b = if 16 * (n : Int) ≤ b ∧ b < 16 * (n : Int) + 16 then entV (G (b - 16 * (n : Int))) else entA s.1 b := fun b hb => by
    unfold entA
    rw [v0 b hb]
    split <;> rfl
  have w1 : ∀ b, b ≠ 16 * f + i → (b < 16 * (n : Int) ∨ 16 * (n : Int) + 16 ≤ b) → entA (layS (W, s.2.set n (3, o, 0, 0, ())) (16 * f + i) (leadP (n : Int))).1 b = entA s.1 b := fun b hb h => by
    show entA (stL _ _ _) b = _
    rw [w0 b hb, if_neg (by omega)]
  have w2 : ∀ k, 0 ≤ k → k < 16 → entA (layS (W, s.2.set n (3, o, 0, 0, ())) (16 * f + i) (leadP (n : Int))).1 (16 * (n : Int) + k) = entV (G k) := fun k h0 h1 => by
    show entA (stL _ _ _) _ = _
    rw [w0 _ (by omega), if_pos (by omega)]
    congr 2; omega
  have w3 : entA (layS (W, s.2.set n (3, o, 0, 0, ())) (16 * f + i) (leadP (n : Int))).1 (16 * f + i) = leadP (n : Int) := by
    show entA (stL _ _ _) _ = _
    rw [ent_self ein, lead_ent (by omega)]
  refine ⟨eE, gn, by omega, by omega, rfl, by rw [show ((n : Int)).toNat = n from rfl]; exact hn2, w1, w2, w3, ?_⟩
  -- an old table's entries
  have old : ∀ {f0 o0 x0 k : Int} {l0 : Nat}, g f0 = some (o0, l0, x0) → 0 ≤ k → k < 16 → (16 * f0 + k = 16 * f + i ∧ f0 = f ∧ k = i) ∨ entA (layS (W, s.2.set n (3, o, 0, 0, ())) (16 * f + i) (leadP (n : Int))).1 (16 * f0 + k) = entA s.1 (16 * f0 + k) := fun {f0 o0 x0 k l0} h h0 h1 => by
    by_cases e : 16 * f0 + k = 16 * f + i
    · exact .inl ⟨e, by omega, by omega⟩
    · have := hne h
      exact .inr (w1 _ e (by omega))
  refine ⟨?_, ?_, ?_, ?_, ?_, ?_, ?_, ?_, ?_, ?_⟩
  · show 16 * (s.2.set n _).length ≤ (stL W _ _).length
    rw [stL_len, hWl, List.length_set]; exact hlen
  · show (s.2.set n _).length ≤ 4096
    rw [List.length_set]; exact hle
  · intro d hd h0
    rcases List.mem_or_eq_of_mem_set hd with hd | rfl
    · exact I.fz d hd h0
    · cases h0
  · intro f0 o0 l0 x0 h
    show _ ∧ _ < ((s.2.set n (3, o, 0, 0, ())).length : Int) ∧ (s.2.set n (3, o, 0, 0, ()))[f0.toNat]? = _ ∧ _
    rw [List.length_set]
    by_cases e : f0 = (n : Int)
    · subst e
      rw [setG_self] at h
      cases h
      refine ⟨by omega, by omega, ?_, hk.2.2.2.1, hk.2.2.2.2.1, by omega⟩
      rw [show ((n : Int)).toNat = n from rfl, List.getElem?_set_self hn1]
    · rw [setG_ne e] at h
      obtain ⟨a1, a2, a3, a4⟩ := I.kd h
      refine ⟨a1, a2, ?_, a4⟩
      rw [List.getElem?_set_ne (by omega)]; exact a3
  · intro a b v ha hb
    by_cases e : a = (n : Int) <;> by_cases e' : b = (n : Int)
    · rw [e, e']
    · subst e
      rw [setG_self] at ha
      rw [setG_ne e'] at hb
      cases ha
      exfalso
      obtain ⟨f', p1, p2⟩ := I.par hb (by omega)
      have ex : (16 * x + i) / 16 = x := by omega
      have ei : (16 * x + i) % 16 = i := by omega
      rw [ex] at p1; rw [ei] at p2
      rw [I.inj p1 hf, ] at p2
      rw [p2] at hn
      obtain ⟨c1, c2, _⟩ := I.rng hb
      rw [lead_tab ⟨c1, c2⟩] at hn; cases hn
    · subst e'
      rw [setG_self] at hb
      rw [setG_ne e] at ha
      cases hb
      exfalso
      obtain ⟨f', p1, p2⟩ := I.par ha (by omega)
      have ex : (16 * x + i) / 16 = x := by omega
      have ei : (16 * x + i) % 16 = i := by omega
      rw [ex] at p1; rw [ei] at p2
      rw [I.inj p1 hf, ] at p2
      rw [p2] at hn
      obtain ⟨c1, c2, _⟩ := I.rng ha
      rw [lead_tab ⟨c1, c2⟩] at hn; cases hn
    · rw [setG_ne e] at ha
      rw [setG_ne e'] at hb
      exact I.inj ha hb
  · intro f0 o0 l0 x0 k h h0 h1 ht
    by_cases e : f0 = (n : Int)
    · subst e
      rw [w2 k h0 h1, (hG k h0 h1).1] at ht; cases ht
    · rw [setG_ne e] at h
      rcases old h h0 h1 with ⟨e1, rfl, rfl⟩ | e1
      · rw [e1, w3]
        rw [hf] at h; cases h
        exact ⟨m, rfl, setG_self _ _ _⟩
      · rw [e1] at ht ⊢
        obtain ⟨m', q1, q2⟩ := I.tab h h0 h1 ht
        exact ⟨m', q1, by rw [setG_ne (hne q2)]; exact q2⟩
  · intro f0 o0 l0 x0 k h h0 h1
    by_cases e : f0 = (n : Int)
    · subst e
      rw [setG_self] at h; cases h
      rw [w2 k h0 h1]; exact (hG k h0 h1).2.1
    · rw [setG_ne e] at h
      rcases old h h0 h1 with ⟨e1, rfl, rfl⟩ | e1
      · rw [e1, w3]; exact leafT _ (lead_tab (by omega))
      · rw [e1]; exact I.leaf h h0 h1
  · intro f0 o0 l0 x0 h hl
    by_cases e : f0 = (n : Int)
    · subst e
      rw [setG_self] at h; cases h
      have ex : (16 * x + i) / 16 = x := by omega
      have ei : (16 * x + i) % 16 = i := by omega
      exact ⟨f, by rw [setG_ne hfn, ex]; exact hf, by rw [ei]; exact w3⟩
    · rw [setG_ne e] at h
      obtain ⟨f', p1, p2⟩ := I.par h hl
      refine ⟨f', by rw [setG_ne (hne p1)]; exact p1, ?_⟩
      rcases old p1 (by omega : 0 ≤ x0 % 16) (by omega) with ⟨e1, rfl, e3⟩ | e1
      · exfalso
        rw [e1] at p2; rw [p2] at hn
        obtain ⟨c1, c2, _⟩ := I.rng h
        rw [lead_tab ⟨c1, c2⟩] at hn; cases hn
      · rw [e1]; exact p2
  · intro f0 o0 l0 x0 k h h0 h1 hp
    by_cases e : f0 = (n : Int)
    · subst e
      rw [w2 k h0 h1] at hp
      show ldV (stL _ _ _) _ = 0
      rw [v0 _ (by omega), if_pos (by omega), show 16 * (n : Int) + k - 16 * (n : Int) = k from by omega]
      exact (hG k h0 h1).2.2 hp
    · rw [setG_ne e] at h
      rcases old h h0 h1 with ⟨e1, rfl, rfl⟩ | e1
      · rw [e1, w3] at hp; cases hp
      · rw [e1] at hp
        have hb : 16 * f0 + k ≠ 16 * f + i := fun e2 => by
          rw [e2, w3] at e1
          rw [e2, ← e1] at hp; cases hp
        show ldV (stL _ _ _) _ = 0
        rw [v0 _ hb, if_neg (by omega)]
        exact I.wf h h0 h1 hp
  · intro n' d hn' h3
    by_cases e : n' = n
    · subst e; exact ⟨_, setG_self _ _ _⟩
    · have h' : (s.2.set n (3, o, 0, 0, ()))[n']? = some d := hn'
      rw [List.getElem?_set_ne (by omega)] at h'
      obtain ⟨v, hv⟩ := I.tb h' h3
      exact ⟨v, by rw [setG_ne (by omega)]; exact hv⟩
/-- An entry that leads to no table is changed. -/
theorem leafSet (I : Inv g s) {f o x i v : Int} {l : Nat} (hf : g f = some (o, l, x)) (hi0 : 0 ≤ i) (hi1 : i < 16) (hn : tabP (entA s.1 (16 * f + i)) = false) (hv : tabP (entV v) = false) (hl : LeafOk l (entV v)) (hv0 : (entV v).1 = false → v = 0) :
    entA (stL s.1 (16 * f + i) v) (16 * f + i) = entV v ∧ Inv g (stL s.1 (16 * f + i) v, s.2) := by
  have hfr := I.rng hf
  have ein : inM s.1 (16 * f + i) = true := inM_rng (by omega) (by omega)
  have w3 := ent_self (v := v) ein
  have old : ∀ {f0 k : Int}, 0 ≤ k → k < 16 → (16 * f0 + k = 16 * f + i ∧ f0 = f ∧ k = i) ∨ entA (stL s.1 (16 * f + i) v) (16 * f0 + k) = entA s.1 (16 * f0 + k) := fun {f0 k} h0 h1 => by
    by_cases e : 16 * f0 + k = 16 * f + i
    · exact .inl ⟨e, by omega, by omega⟩
    · exact .inr (ent_st (fun e' => e e'.symm))
  refine ⟨w3, by show 16 * s.2.length ≤ (stL _ _ _).length; rw [stL_len]; exact I.len, I.le, I.fz, I.kd, I.inj, ?_, ?_, ?_, ?_, I.tb⟩
  · intro f0 o0 l0 x0 k h h0 h1 ht
    rcases old (f0 := f0) h0 h1 with ⟨e1, rfl, rfl⟩ | e1
    · rw [w3, hv] at ht; cases ht
    · have ht' : tabP (entA s.1 (16 * f0 + k)) = true := by rw [← e1]; exact ht
      show ∃ m, l0 = m + 1 ∧ g (entA (stL s.1 (16 * f + i) v) (16 * f0 + k)).2.2.2.1 = _
      rw [e1]
      exact I.tab h h0 h1 ht'
  · intro f0 o0 l0 x0 k h h0 h1
    show LeafOk l0 (entA (stL s.1 (16 * f + i) v) (16 * f0 + k))
    rcases old (f0 := f0) h0 h1 with ⟨e1, rfl, rfl⟩ | e1
    · rw [w3]
      rw [hf] at h; cases h; exact hl
    · rw [e1]; exact I.leaf h h0 h1
  · intro f0 o0 l0 x0 h hl
    obtain ⟨f', p1, p2⟩ := I.par h hl
    refine ⟨f', p1, ?_⟩
    show entA (stL s.1 (16 * f + i) v) (16 * f' + x0 % 16) = _
    rcases old (f0 := f') (by omega : 0 ≤ x0 % 16) (by omega) with ⟨e1, rfl, e3⟩ | e1
    · exfalso
      rw [e1] at p2; rw [p2] at hn
      obtain ⟨c1, c2, _⟩ := I.rng h
      rw [lead_tab ⟨c1, c2⟩] at hn; cases hn
    · rw [e1]; exact p2
  · intro f0 o0 l0 x0 k h h0 h1 hp
    show ldV (stL s.1 (16 * f + i) v) (16 * f0 + k) = 0
    have hp' : (entA (stL s.1 (16 * f + i) v) (16 * f0 + k)).1 = false := hp
    by_cases e : 16 * f0 + k = 16 * f + i
    · rw [e, w3] at hp'
      rw [e, ld_self ein]; exact hv0 hp'
    · rw [ent_st (fun e' => e e'.symm)] at hp'
      rw [ld_ne (fun e' => e e'.symm)]; exact I.wf h h0 h1 hp'
/-- A table that is empty is taken away. -/
theorem prune (I : Inv g s) {f o x i f2 : Int} {m : Nat} (hf : g f = some (o, m + 1, x)) (hi0 : 0 ≤ i) (hi1 : i < 16) (hg : g f2 = some (o, m, 16 * x + i)) (he : entA s.1 (16 * f + i) = leadP f2) (hz : ∀ k, 0 ≤ k → k < 16 → entA s.1 (16 * f2 + k) = zE) :
    entA (stL s.1 (16 * f + i) 0) (16 * f + i) = zE ∧ chL s.2 f2 (turnG 5 0) = s.2.set f2.toNat (5, o, 0, 0, ()) ∧ Inv (setG g f2 none) (stL s.1 (16 * f + i) 0, chL s.2 f2 (turnG 5 0)) := by
  have hfr := I.rng hf
  have hk := I.kd hf
  have hk2 := I.kd hg
  have ein : inM s.1 (16 * f + i) = true := inM_rng (by omega) (by omega)
  have w3 : entA (stL s.1 (16 * f + i) 0) (16 * f + i) = zE := by rw [ent_self ein]; exact entV0
  have hds : chL s.2 f2 (turnG 5 0) = s.2.set f2.toNat (5, o, 0, 0, ()) := by
    rw [chL_in ⟨hk2.1, hk2.2.1⟩, List.getD_eq_getElem?_getD, hk2.2.2.1]
    show (if (turnG 5 0 (3, o, 0, 0, ())).2 = 0 then s.2.set f2.toNat (turnG 5 0 (3, o, 0, 0, ())).1 else _) = _
    rw [turn_tab ⟨hk.2.2.2.1, hk.2.2.2.2.1⟩, if_pos rfl]
  have ne2 : ∀ {f0 v}, setG g f2 none f0 = some v → f0 ≠ f2 ∧ g f0 = some v := fun {f0 v} h => by
    by_cases e : f0 = f2
    · rw [e, setG_self] at h; cases h
    · rw [setG_ne e] at h; exact ⟨e, h⟩
  have old : ∀ {f0 k : Int}, 0 ≤ k → k < 16 → (16 * f0 + k = 16 * f + i ∧ f0 = f ∧ k = i) ∨ entA (stL s.1 (16 * f + i) 0) (16 * f0 + k) = entA s.1 (16 * f0 + k) := fun {f0 k} h0 h1 => by
    by_cases e : 16 * f0 + k = 16 * f + i
    · exact .inl ⟨e, by omega, by omega⟩
    · exact .inr (ent_st (fun e' => e e'.symm))
  refine ⟨w3, hds, ?_⟩
  rw [hds]
  refine ⟨?_, ?_, ?_, ?_, ?_, ?_, ?_, ?_, ?_, ?_⟩
  · show 16 * (s.2.set _ _).length ≤ (stL _ _ _).length
    rw [stL_len, List.length_set]; exact I.len
  · show (s.2.set _ _).length ≤ 4096
    rw [List.length_set]; exact I.le
  · intro d hd h0
    rcases List.mem_or_eq_of_mem_set hd with hd | rfl
    · exact I.fz d hd h0
    · cases h0
  · intro f0 o0 l0 x0 h
    obtain ⟨hne, h⟩ := ne2 h
    show _ ∧ _ < ((s.2.set f2.toNat (5, o, 0, 0, ())).length : Int) ∧ (s.2.set f2.toNat (5, o, 0, 0, ()))[f0.toNat]? = _ ∧ _
    rw [List.length_set]
    obtain ⟨a1, a2, a3, a4⟩ := I.kd h
    refine ⟨a1, a2, ?_, a4⟩
    rw [List.getElem?_set_ne (by omega)]; exact a3
  · intro a b v ha hb
    exact I.inj (ne2 ha).2 (ne2 hb).2
  · intro f0 o0 l0 x0 k h h0 h1 ht
    obtain ⟨hne, h⟩ := ne2 h
    rcases old (f0 := f0) h0 h1 with ⟨e1, rfl, rfl⟩ | e1
    · rw [w3] at ht; cases ht
    · have ht' : tabP (entA s.1 (16 * f0 + k)) = true := by rw [← e1]; exact ht
      show ∃ m, l0 = m + 1 ∧ setG g f2 none (entA (stL s.1 (16 * f + i) 0) (16 * f0 + k)).2.2.2.1 = _
      rw [e1]
      obtain ⟨m', q1, q2⟩ := I.tab h h0 h1 ht'
      refine ⟨m', q1, ?_⟩
      rw [setG_ne]
      · exact q2
      · intro e
        rw [e, hg] at q2
        simp only [Option.some.injEq, Prod.mk.injEq] at q2
        obtain ⟨a1, a2, a3⟩ := q2
        have ek : k = i := by omega
        have ex : x0 = x := by omega
        subst ek; subst ex; subst a1; subst a2; subst q1
        have := I.inj h hf
        subst this
        rw [w3] at e1
        rw [← e1] at ht'; cases ht'
  · intro f0 o0 l0 x0 k h h0 h1
    obtain ⟨hne, h⟩ := ne2 h
    show LeafOk l0 (entA (stL s.1 (16 * f + i) 0) (16 * f0 + k))
    rcases old (f0 := f0) h0 h1 with ⟨e1, rfl, rfl⟩ | e1
    · rw [w3]; exact leaf0 _
    · rw [e1]; exact I.leaf h h0 h1
  · intro f0 o0 l0 x0 h hl
    obtain ⟨hne, h⟩ := ne2 h
    obtain ⟨f', p1, p2⟩ := I.par h hl
    have hf' : f' ≠ f2 := fun e => by
      rw [e, hz _ (by omega) (by omega)] at p2
      cases p2
    refine ⟨f', by rw [setG_ne hf']; exact p1, ?_⟩
    show entA (stL s.1 (16 * f + i) 0) (16 * f' + x0 % 16) = _
    rcases old (f0 := f') (by omega : 0 ≤ x0 % 16) (by omega) with ⟨e1, rfl, e3⟩ | e1
    · exfalso
      rw [e1, he] at p2
      unfold leadP at p2
      simp only [Prod.mk.injEq, and_true, true_and] at p2
      exact hne p2.symm
    · rw [e1]; exact p2
  · intro f0 o0 l0 x0 k h h0 h1 hp
    obtain ⟨hne, h⟩ := ne2 h
    show ldV (stL s.1 (16 * f + i) 0) (16 * f0 + k) = 0
    have hp' : (entA (stL s.1 (16 * f + i) 0) (16 * f0 + k)).1 = false := hp
    by_cases e : 16 * f0 + k = 16 * f + i
    · rw [e, ld_self ein]
    · rw [ent_st (fun e' => e e'.symm)] at hp'
      rw [ld_ne (fun e' => e e'.symm)]; exact I.wf h h0 h1 hp'
  · intro n' d hn' h3
    have h' : (s.2.set f2.toNat (5, o, 0, 0, ()))[n']? = some d := hn'
    by_cases e : n' = f2.toNat
    · subst e
      rw [List.getElem?_set_self (by omega)] at h'
      cases h'
      exact absurd (show (5 : Int) = 3 from h3) (by decide)
    · rw [List.getElem?_set_ne (by omega)] at h'
      obtain ⟨v, hv⟩ := I.tb h' h3
      exact ⟨v, by rw [setG_ne (by omega)]; exact hv⟩
end Inv
end Go.Proofs.YtkldededdgpmbaaGreat
namespace Go.Proofs.YtkldededdgpmbaaGreat
set_option linter.unusedSimpArgs false
set_option linter.unusedVariables false
set_option maxRecDepth 100000
open Go.RX D
/-! ### What a page's way ends in, behind a change -/
/-- What Query tells of the entry at the end. -/
def resE (p : Int) (j : Nat) (e : ET) : Int × Int × Int × Unit := if e.1 = true then (if j = 1 then e.2.2.2.1 + p % 16 else e.2.2.2.1, e.2.1, 0, ()) else (0, 0, 4, ())
theorem res0 (p : Int) (j : Nat) {e : ET} (h : e.1 = false) : resE p j e = (0, 0, 4, ()) := by unfold resE; rw [h, if_neg (by decide)]
/-- Roots are where they were. -/
def RootK (g g' : Gh) : Prop := ∀ o r x, g' r = some (o, 3, x) ↔ g r = some (o, 3, x)
theorem RootK.refl (g : Gh) : RootK g g := fun _ _ _ => Iff.rfl
theorem RootK.trans {a b c : Gh} (h : RootK a b) (k : RootK b c) : RootK a c := fun o r x => (k o r x).trans (h o r x)
theorem RootK.to {g g' : Gh} {o r x : Int} (h : RootK g g') (k : g r = some (o, 3, x)) : g' r = some (o, 3, x) := (h _ _ _).2 k
/-- What lies in other guests' tables. -/
def Othr (o : Int) (g g' : Gh) (s s' : WD) : Prop := ∀ ⦃f o' l x⦄, o' ≠ o → g f = some (o', l, x) → g' f = some (o', l, x) ∧ ∀ k, 0 ≤ k → k < 16 → entA s'.1 (16 * f + k) = entA s.1 (16 * f + k)
theorem Othr.refl (o : Int) (g : Gh) (s : WD) : Othr o g g s s := fun _ _ _ _ _ h => ⟨h, fun _ _ _ => rfl⟩
theorem Othr.trans {o : Int} {a b c : Gh} {s t u : WD} (h : Othr o a b s t) (k : Othr o b c t u) : Othr o a c s u := fun _ _ _ _ hn hf => by
  obtain ⟨h1, h2⟩ := h hn hf
  obtain ⟨k1, k2⟩ := k hn h1
  exact ⟨k1, fun i h0 h3 => (k2 i h0 h3).trans (h2 i h0 h3)⟩
/-- All ends are as they were, but for those of pages (of o) that P holds of. -/
def EndK (P : Int → Int → Prop) (g g' : Gh) (s s' : WD) : Prop := ∀ ⦃o p f j⦄, ¬ P o p → EndAt g s o p f j → ∃ f' j', EndAt g' s' o p f' j' ∧ resE p j' (entA s'.1 (16 * f' + px j' p % 16)) = resE p j (entA s.1 (16 * f + px j p % 16))
theorem EndK.refl (P : Int → Int → Prop) (g : Gh) (s : WD) : EndK P g g s s := fun _ _ _ _ _ h => ⟨_, _, h, rfl⟩
theorem EndK.trans {P : Int → Int → Prop} {a b c : Gh} {s t u : WD} (h : EndK P a b s t) (k : EndK P b c t u) : EndK P a c s u := fun _ _ _ _ hp he => by
  obtain ⟨f1, j1, h1, h2⟩ := h hp he
  obtain ⟨f2, j2, k1, k2⟩ := k hp h1
  exact ⟨f2, j2, k1, k2.trans h2⟩
theorem EndK.mono {P P' : Int → Int → Prop} {a b : Gh} {s t : WD} (h : EndK P a b s t) (hp : ∀ o p, P o p → P' o p) : EndK P' a b s t := fun _ _ _ _ hn he => h (fun c => hn (hp _ _ c)) he
def noP : Int → Int → Prop := fun _ _ => False
/-- Pages of o with the same digits from l on. -/
def sameP (o : Int) (l : Nat) (p : Int) : Int → Int → Prop := fun o' q => o' = o ∧ px l q = px l p
namespace Inv
variable {g : Gh} {s : WD}
theorem qry_of (I : Inv g s) {o r p : Int} (hr : g r = some (o, 3, 0)) (hp : 0 ≤ p ∧ p < 65536) {f : Int} {j : Nat} (h : EndAt g s o p f j) : qryV s r false p = resE p j (entA s.1 (16 * f + px j p % 16)) := by
  obtain ⟨e1, e2⟩ := I.endX_of hr hp h
  unfold qryV resE
  rw [if_neg (by decide), if_neg (by omega), e2, e1]
  unfold frmP
  cases hb : (entA s.1 (16 * f + px j p % 16)).1 with
  | false => rw [if_neg (by decide), if_neg (by decide)]
  | true =>
    rw [if_pos rfl, if_pos rfl]
    by_cases hj : j = 1
    · subst hj; rfl
    · rw [if_neg hj, if_neg (by show ¬ ((j : Int) = 1); omega)]
theorem qry_keep (I : Inv g s) {g' : Gh} {s' : WD} (I' : Inv g' s') {P : Int → Int → Prop} (hk : EndK P g g' s s') (hR : RootK g g') {o r p : Int} (hr : g r = some (o, 3, 0)) (hp : ¬ P o p) : qryV s' r false p = qryV s r false p := by
  by_cases h : 0 ≤ p ∧ p < 65536
  · obtain ⟨f, j, _, he⟩ := I.end_at hr h
    obtain ⟨f', j', h1, h2⟩ := hk hp he
    rw [I.qry_of hr h he, I'.qry_of (hR.to hr) h h1, h2]
  · have e : ∀ t : WD, qryV t r false p = (0, 0, 2, ()) := fun t => by
      unfold qryV
      rw [if_neg (by decide), if_pos (by omega)]
    rw [e, e]
/-- Growing: what happens to ends. -/
theorem grow_end (I : Inv g s) {f o x i : Int} {m : Nat} (hf : g f = some (o, m + 1, x)) (hi0 : 0 ≤ i) (hi1 : i < 16) (hn : tabP (entA s.1 (16 * f + i)) = false) (hc : 0 < cntL s.2 0) (G : Int → Int)
    (hG : ∀ k, 0 ≤ k → k < 16 → tabP (entV (G k)) = false ∧ LeafOk m (entV (G k)) ∧ ((entV (G k)).1 = false → G k = 0))
    (hsame : ∀ p, 0 ≤ px m p % 16 → px (m + 1) p % 16 = i → resE p m (entV (G (px m p % 16))) = resE p (m + 1) (entA s.1 (16 * f + i))) :
    let n := tkF s o
    let s' := layS (tkS s o G) (16 * f + i) (leadP n)
    let g' := setG g n (some (o, m, 16 * x + i))
    tkE s o = 0 ∧ Inv g' s' ∧ RootK g g' ∧ Othr o g g' s s' ∧ EndK noP g g' s s' ∧ s'.2 = s.2.set n.toNat (3, o, 0, 0, ()) ∧ s.2[n.toNat]? = some zD ∧
    (∀ p, EndAt g s o p f (m + 1) → px (m + 1) p % 16 = i → EndAt g' s' o p n m ∧ entA s'.1 (16 * n + px m p % 16) = entV (G (px m p % 16))) ∧ 0 ≤ n ∧ n < 4096 := by
  obtain ⟨q0, q1, q2, q3, q4, q5, q6, q7, q8, q9⟩ := I.grow hf hi0 hi1 hn hc G hG
  dsimp only
  have hne : ∀ {f' : Int} {v}, g f' = some v → f' ≠ tkF s o := fun h e => by rw [e, q1] at h; cases h
  have hit : ∀ p, EndAt g s o p f (m + 1) → px (m + 1) p % 16 = i → EndAt (setG g (tkF s o) (some (o, m, 16 * x + i))) (layS (tkS s o G) (16 * f + i) (leadP (tkF s o))) o p (tkF s o) m ∧ entA (layS (tkS s o G) (16 * f + i) (leadP (tkF s o))).1 (16 * tkF s o + px m p % 16) = entV (G (px m p % 16)) := fun p he hp => by
    have e := q7 (px m p % 16) (px_i p m).1 (px_i p m).2
    refine ⟨⟨?_, by rw [e]; exact (hG _ (px_i p m).1 (px_i p m).2).1⟩, e⟩
    rw [setG_self]
    have h1 := he.1
    rw [hf] at h1
    simp only [Option.some.injEq, Prod.mk.injEq, true_and] at h1
    rw [h1, ← hp, ← px_step]
  refine ⟨q0, q9, fun o' r' x' => ?_, fun ⦃f0 o' l x0⦄ ho h => ⟨?_, fun k h0 h1 => ?_⟩, fun ⦃o' p f' j⦄ _ he => ?_, q4, q5, hit, q2, by have := I.le; omega⟩
  · by_cases e : r' = tkF s o
    · rw [e, setG_self, q1]
      refine ⟨fun h => ?_, fun h => by cases h⟩
      have := (I.kd hf).2.2.2.2.2
      simp only [Option.some.injEq, Prod.mk.injEq] at h
      omega
    · rw [setG_ne e]
  · rw [setG_ne (hne h)]; exact h
  · have := hne h
    refine q6 _ (fun e => ?_) (by omega)
    have : f0 = f := by omega
    subst this
    rw [hf] at h; cases h; exact ho rfl
  · by_cases hh : f' = f ∧ px j p % 16 = i
    · obtain ⟨rfl, hp⟩ := hh
      have h1 := he.1
      rw [hf] at h1
      simp only [Option.some.injEq, Prod.mk.injEq] at h1
      obtain ⟨rfl, rfl, rfl⟩ := h1
      obtain ⟨k1, k2⟩ := hit p he hp
      refine ⟨_, _, k1, ?_⟩
      rw [k2, hp]
      exact hsame p (px_i p m).1 hp
    · have e : entA (layS (tkS s o G) (16 * f + i) (leadP (tkF s o))).1 (16 * f' + px j p % 16) = entA s.1 (16 * f' + px j p % 16) := by
        have := hne he.1
        have := px_i p j
        refine q6 _ (fun e => hh ?_) (by omega)
        omega
      refine ⟨f', j, ⟨by rw [setG_ne (hne he.1)]; exact he.1, by rw [e]; exact he.2⟩, by rw [e]⟩
/-- Changing an entry: what happens to ends. -/
theorem leaf_end (I : Inv g s) {f o x i v : Int} {l : Nat} (hf : g f = some (o, l, x)) (hi0 : 0 ≤ i) (hi1 : i < 16) (hn : tabP (entA s.1 (16 * f + i)) = false) (hv : tabP (entV v) = false) (hl : LeafOk l (entV v)) (hv0 : (entV v).1 = false → v = 0) {q : Int} (hq : EndAt g s o q f l) (hqi : px l q % 16 = i) :
    Inv g (stL s.1 (16 * f + i) v, s.2) ∧ Othr o g g s (stL s.1 (16 * f + i) v, s.2) ∧ EndK (sameP o l q) g g s (stL s.1 (16 * f + i) v, s.2) ∧
    (∀ p, px l p = px l q → EndAt g (stL s.1 (16 * f + i) v, s.2) o p f l ∧ EndAt g s o p f l) ∧ entA (stL s.1 (16 * f + i) v) (16 * f + i) = entV v := by
  obtain ⟨e0, I'⟩ := I.leafSet hf hi0 hi1 hn hv hl hv0
  have hx := hq.1
  rw [hf] at hx
  simp only [Option.some.injEq, Prod.mk.injEq, true_and] at hx
  refine ⟨I', fun ⦃f0 o' l0 x0⦄ ho h => ⟨h, fun k h0 h1 => ?_⟩, fun ⦃o' p f' j⦄ hp he => ?_, fun p hp => ?_, e0⟩
  · refine ent_st (fun e => ho ?_)
    have : f0 = f := by omega
    subst this
    rw [hf] at h; cases h; rfl
  · have e : entA (stL s.1 (16 * f + i) v) (16 * f' + px j p % 16) = entA s.1 (16 * f' + px j p % 16) := by
      refine ent_st (fun e => hp ?_)
      have h2 := px_i p j
      have : f' = f := by omega
      subst this
      have h1 := he.1
      rw [hf] at h1
      simp only [Option.some.injEq, Prod.mk.injEq] at h1
      obtain ⟨rfl, rfl, h3⟩ := h1
      refine ⟨rfl, ?_⟩
      rw [px_step p, px_step q, ← h3, ← hx]
      omega
    exact ⟨f', j, ⟨he.1, by show tabP (entA (stL s.1 (16 * f + i) v) _) = false; rw [e]; exact he.2⟩, by show resE p j (entA (stL s.1 (16 * f + i) v) _) = _; rw [e]⟩
  · have h1 : px (l + 1) p = px (l + 1) q := by simp only [px]; rw [hp]
    have h2 : px l p % 16 = i := by rw [hp]; exact hqi
    refine ⟨⟨by rw [h1]; exact hq.1, ?_⟩, ⟨by rw [h1]; exact hq.1, by rw [h2]; exact hn⟩⟩
    show tabP (entA (stL s.1 (16 * f + i) v) (16 * f + px l p % 16)) = false
    rw [h2, e0]; exact hv
/-- Pruning: what happens to ends. -/
theorem prune_end (I : Inv g s) {f o x i f2 : Int} {m : Nat} (hf : g f = some (o, m + 1, x)) (hi0 : 0 ≤ i) (hi1 : i < 16) (hg : g f2 = some (o, m, 16 * x + i)) (he : entA s.1 (16 * f + i) = leadP f2) (hz : ∀ k, 0 ≤ k → k < 16 → entA s.1 (16 * f2 + k) = zE) :
    let s' : WD := (stL s.1 (16 * f + i) 0, chL s.2 f2 (turnG 5 0))
    let g' := setG g f2 none
    Inv g' s' ∧ RootK g g' ∧ Othr o g g' s s' ∧ EndK noP g g' s s' ∧ s'.2 = s.2.set f2.toNat (5, o, 0, 0, ()) ∧ s.2[f2.toNat]? = some (3, o, 0, 0, ()) ∧ (∀ p, EndAt g s o p f2 m → EndAt g' s' o p f (m + 1)) ∧ entA s'.1 (16 * f + i) = zE := by
  obtain ⟨q1, q2, q3⟩ := I.prune hf hi0 hi1 hg he hz
  dsimp only
  have hfr := I.rng hg
  have hff : f ≠ f2 := fun e => by
    subst e
    rw [hf] at hg
    simp at hg
  have nt : tabP (entA s.1 (16 * f + i)) = true := by rw [he]; exact lead_tab ⟨hfr.1, hfr.2.1⟩
  have hit : ∀ p, EndAt g s o p f2 m → EndAt (setG g f2 none) (stL s.1 (16 * f + i) 0, chL s.2 f2 (turnG 5 0)) o p f (m + 1) ∧ px (m + 1) p % 16 = i := fun p h => by
    have h1 := h.1
    rw [hg] at h1
    simp only [Option.some.injEq, Prod.mk.injEq, true_and] at h1
    have h2 := px_step p (m + 1)
    have h3 := px_i p (m + 1)
    have e1 : px (m + 1 + 1) p = x := by omega
    have e2 : px (m + 1) p % 16 = i := by omega
    refine ⟨⟨by rw [setG_ne hff, e1]; exact hf, ?_⟩, e2⟩
    show tabP (entA (stL s.1 (16 * f + i) 0) (16 * f + px (m + 1) p % 16)) = false
    rw [e2, q1]; exact tab0
  refine ⟨q3, fun o' r' x' => ?_, fun ⦃f0 o' l x0⦄ ho h => ⟨?_, fun k h0 h1 => ?_⟩, fun ⦃o' p f' j⦄ _ h => ?_, q2, (I.kd hg).2.2.1, fun p h => (hit p h).1, q1⟩
  · by_cases e : r' = f2
    · subst e
      rw [setG_self, hg]
      refine ⟨fun h => (by cases h), fun h => ?_⟩
      simp only [Option.some.injEq, Prod.mk.injEq] at h
      have := (I.kd hf).2.2.2.2.2
      omega
    · rw [setG_ne e]
  · rw [setG_ne]
    · exact h
    · intro e; subst e
      rw [hg] at h; cases h; exact ho rfl
  · refine ent_st (fun e => ho ?_)
    have : f0 = f := by omega
    subst this
    rw [hf] at h; cases h; rfl
  · by_cases e : f' = f2
    · subst e
      have h1 := h.1
      rw [hg] at h1
      simp only [Option.some.injEq, Prod.mk.injEq] at h1
      obtain ⟨rfl, rfl, h1⟩ := h1
      obtain ⟨k1, k2⟩ := hit p h
      refine ⟨_, _, k1, ?_⟩
      show resE p _ (entA (stL s.1 (16 * f + i) 0) _) = _
      rw [k2, q1, hz _ (px_i p m).1 (px_i p m).2, res0 _ _ rfl, res0 _ _ rfl]
    · have e1 : entA (stL s.1 (16 * f + i) 0) (16 * f' + px j p % 16) = entA s.1 (16 * f' + px j p % 16) := by
        refine ent_st (fun e => ?_)
        have h2 := h.2
        rw [← e, nt] at h2; cases h2
      refine ⟨f', j, ⟨by rw [setG_ne e]; exact h.1, ?_⟩, ?_⟩
      · show tabP (entA (stL s.1 (16 * f + i) 0) _) = false
        rw [e1]; exact h.2
      · show resE p j (entA (stL s.1 (16 * f + i) 0) _) = _
        rw [e1]
end Inv
end Go.Proofs.YtkldededdgpmbaaGreat
namespace Go.Proofs.YtkldededdgpmbaaGreat
set_option linter.unusedSimpArgs false
set_option linter.unusedVariables false
set_option maxRecDepth 100000
open Go.RX D
/-! ### What the calls do to a forest -/
structure Chg (P : Int → Int → Prop) (o : Int) (g g' : Gh) (s s' : WD) : Prop where
  inv : Inv g' s'
  root : RootK g g'
  othr : Othr o g g' s s'
  endk : EndK P g g' s s'
  kk : ∀ {n : Nat} {d : DT}, s.2[n]? = some d → d.1 = 3 ∨ d.1 = 5 → ∃ d' : DT, s'.2[n]? = some d' ∧ (d'.1 = 5 ∨ (d'.1 = 3 ∧ d.1 = 3))
  len : s'.1.length = s.1.length ∧ s'.2.length = s.2.length
theorem Chg.refl {g : Gh} {s : WD} (I : Inv g s) (P : Int → Int → Prop) (o : Int) : Chg P o g g s s :=
  ⟨I, .refl g, .refl o g s, .refl P g s, fun {n d} h k => ⟨d, h, k.elim (fun e => .inr ⟨e, e⟩) .inl⟩, rfl, rfl⟩
theorem Chg.trans {P : Int → Int → Prop} {o : Int} {a b c : Gh} {s t u : WD} (h : Chg P o a b s t) (k : Chg P o b c t u) : Chg P o a c s u where
  inv := k.inv
  root := h.root.trans k.root
  othr := h.othr.trans k.othr
  endk := h.endk.trans k.endk
  kk := fun {n d} hd hk => by
    obtain ⟨d1, h1, h2⟩ := h.kk hd hk
    obtain ⟨d2, k1, k2⟩ := k.kk h1 (h2.elim .inr fun e => .inl e.1)
    refine ⟨d2, k1, ?_⟩
    rcases k2 with e | ⟨e1, e2⟩
    · exact .inl e
    · rcases h2 with e | ⟨_, e3⟩
      · rw [e2] at e; exact absurd e (by decide)
      · exact .inr ⟨e1, e3⟩
  len := ⟨k.len.1.trans h.len.1, k.len.2.trans h.len.2⟩
theorem Chg.mono {P P' : Int → Int → Prop} {o : Int} {a b : Gh} {s t : WD} (h : Chg P o a b s t) (hp : ∀ o p, P o p → P' o p) : Chg P' o a b s t := ⟨h.inv, h.root, h.othr, h.endk.mono hp, h.kk, h.len⟩
theorem kk_set {ds : List DT} {i : Nat} {d0 d1 : DT} (h0 : ds[i]? = some d0) (hk : d0.1 = 3 ∨ d0.1 = 5 → d1.1 = 5) {n : Nat} {d : DT} (h : ds[n]? = some d) (k : d.1 = 3 ∨ d.1 = 5) : ∃ d' : DT, (ds.set i d1)[n]? = some d' ∧ (d'.1 = 5 ∨ (d'.1 = 3 ∧ d.1 = 3)) := by
  have hi : i < ds.length := (List.getElem?_eq_some_iff.1 h0).1
  by_cases e : i = n
  · subst e
    rw [h0] at h; cases h
    exact ⟨d1, List.getElem?_set_self hi, .inl (hk k)⟩
  · exact ⟨d, by rw [List.getElem?_set_ne e]; exact h, k.elim (fun e => .inr ⟨e, e⟩) .inl⟩
theorem lay_len (s : WD) (o : Int) (G : Int → Int) (i : Int) (e : ET) : (layS (tkS s o G) i e).1.length = s.1.length := by
  unfold layS tkS
  show (stL _ _ _).length = _
  rw [stL_len]
  split
  · exact fillL_len _ _ _ _
  · rfl
/-- No table but the roots, and but one, is without entries. -/
def NEx (g : Gh) (s : WD) (e : Option Int) : Prop := ∀ ⦃f o l x⦄, g f = some (o, l, x) → l < 3 → some f ≠ e → ∃ k, 0 ≤ k ∧ k < 16 ∧ (entA s.1 (16 * f + k)).1 = true
theorem NEx.some {g : Gh} {s : WD} (h : NEx g s none) (f : Int) : NEx g s (some f) := fun _ _ _ _ hg hl _ => h hg hl (by simp)
namespace Inv
variable {g : Gh} {s : WD}
/-- Tables are taken, down to a level. -/
theorem down {o p : Int} (hp : 0 ≤ p ∧ p < 65536) (lv : Nat) : ∀ (n : Nat) {g : Gh} {s : WD} {f : Int}, Inv g s → EndAt g s o p f (lv + n) → (entA s.1 (16 * f + px (lv + n) p % 16)).1 = false → n ≤ cntL s.2 0 →
    ∃ g' s' f', downS o p n (s, (f, ((lv + n : Nat) : Int), 16 * f + px (lv + n) p % 16, ())) = (s', (f', (lv : Int), 16 * f' + px lv p % 16, ())) ∧ Chg noP o g g' s s' ∧ EndAt g' s' o p f' lv ∧ (entA s'.1 (16 * f' + px lv p % 16)).1 = false ∧ cntL s'.2 0 + n = cntL s.2 0 ∧ (NEx g s (some f) → NEx g' s' (some f'))
  | 0, g, s, f, I, he, hz, _ => ⟨g, s, f, rfl, .refl I _ _, he, hz, rfl, fun h => h⟩
  | n + 1, g, s, f, I, he, hz, hc => by
    have hk := I.kd he.1
    have hlv : lv + n ≤ 3 := by have := hk.2.2.2.2.2; omega
    have hi := px_i p (lv + n + 1)
    obtain ⟨q0, q1, q2, q3, q4, q5, q6, q7, q8, q9⟩ := I.grow_end (m := lv + n) he.1 hi.1 hi.2 he.2 (by omega) (fun _ => 0) (fun k _ _ => by
      rw [entV0]; exact ⟨tab0, leaf0 _, fun _ => rfl⟩) (fun p' _ hp' => by
      rw [entV0, res0 _ _ rfl, res0]
      exact hz)
    obtain ⟨e1, e2⟩ := q7 p he rfl
    have hF : 0 ≤ tkF s o ∧ tkF s o < 4096 := ⟨q8, q9⟩
    have hcnt := cnt_set (d' := (3, o, 0, 0, ())) q6 0
    have hc2 : cntL (layS (tkS s o fun _ => 0) (16 * f + px (lv + n + 1) p % 16) (leadP (tkF s o))).2 0 + 1 = cntL s.2 0 := by
      rw [q5]
      simpa [zD] using hcnt
    have hC : Chg noP o g (setG g (tkF s o) (some (o, lv + n, 16 * px (lv + n + 1 + 1) p + px (lv + n + 1) p % 16))) s (layS (tkS s o fun _ => 0) (16 * f + px (lv + n + 1) p % 16) (leadP (tkF s o))) :=
      ⟨q1, q2, q3, q4, fun {m d} hd hk => by rw [q5]; exact kk_set q6 (fun h => by rcases h with h | h <;> exact absurd h (by decide)) hd hk, lay_len _ _ _ _ _, by rw [q5, List.length_set]⟩
    obtain ⟨_, u1, _, _, _, _, u2, _, u3, _⟩ := I.grow (m := lv + n) he.1 hi.1 hi.2 he.2 (by omega) (fun _ => 0) (fun k _ _ => by
      rw [entV0]; exact ⟨tab0, leaf0 _, fun _ => rfl⟩)
    have hne : NEx g s (some f) → NEx (setG g (tkF s o) (some (o, lv + n, 16 * px (lv + n + 1 + 1) p + px (lv + n + 1) p % 16))) (layS (tkS s o fun _ => 0) (16 * f + px (lv + n + 1) p % 16) (leadP (tkF s o))) (some (tkF s o)) := fun h f0 o0 l0 x0 h0 hl0 hn0 => by
      have hn1 : f0 ≠ tkF s o := fun e => hn0 (by rw [e])
      rw [setG_ne hn1] at h0
      by_cases e : f0 = f
      · subst e
        exact ⟨_, hi.1, hi.2, by rw [u3]; rfl⟩
      · obtain ⟨k, k1, k2, k3⟩ := h h0 hl0 (by simpa using e)
        exact ⟨k, k1, k2, by rw [u2 _ (by omega) (by omega)]; exact k3⟩
    obtain ⟨g', s', f', r1, r2, r3, r4, r5, r6⟩ := down hp lv n q1 e1 (by rw [e2, entV0]; rfl) (by omega)
    refine ⟨g', s', f', ?_, hC.trans r2, r3, r4, by omega, fun h => r6 (hne h)⟩
    rw [← r1]
    show downS o p n (layS (tkS s o fun _ => 0) (16 * f + px (lv + (n + 1)) p % 16) (leadP (tkF s o)), (tkF s o, ((lv + (n + 1) : Nat) : Int) - 1, atI (tkF s o) p (((lv + (n + 1) : Nat) : Int) - 1), ())) = _
    have el : ((lv + (n + 1) : Nat) : Int) - 1 = ((lv + n : Nat) : Int) := by omega
    rw [el, at_px hF hp hlv]
    rfl
end Inv
end Go.Proofs.YtkldededdgpmbaaGreat
namespace Go.Proofs.YtkldededdgpmbaaGreat
set_option linter.unusedSimpArgs false
set_option linter.unusedVariables false
set_option maxRecDepth 100000
open Go.RX D
/-! ### put, split, thin, and what Map, Large, Unmap, Protect do -/
theorem free0 {ds : List DT} (h : cntL ds 0 = 0) : freeI ds = none := by
  unfold cntL at h
  unfold freeI
  rw [List.findIdx?_eq_none_iff]
  intro d hd
  have := List.countP_eq_zero.1 h d hd
  simpa using this
theorem takeL_err {ds : List DT} {y o : Int} (h : ¬ takeE ds y o = 0) : takeL ds y o = ds := by
  unfold takeE at h
  unfold takeL
  cases hf : freeI ds with
  | none => rfl
  | some n =>
    have hl : ¬ ds.length = 0 := fun e => by
      have : ds = [] := List.length_eq_zero_iff.1 e
      subst this
      cases hf
    rw [if_neg hl, hf] at h
    dsimp only at h ⊢
    by_cases hr : (n : Int) < 0 ∨ (n : Int) ≥ ds.length
    · exact chL_out hr _
    · rw [chE_in (by omega)] at h
      rw [chL_in (by omega), if_neg h]
theorem tkS_err {s : WD} {o : Int} {G : Int → Int} (h : ¬ tkE s o = 0) : tkS s o G = s := by
  unfold tkS
  rw [if_neg h, takeL_err h]
theorem tkE_none {s : WD} {o : Int} (h : cntL s.2 0 = 0) (hl : 0 < s.2.length) : ¬ tkE s o = 0 := by
  unfold tkE takeE
  rw [if_neg (by omega), free0 h]
  show ¬ (12 : Int) = 0
  decide
theorem resE_ok {p : Int} {j : Nat} {e : ET} (h : (resE p j e).2.2.1 = 0) : e.1 = true := by
  cases he : e.1 with
  | true => rfl
  | false =>
    rw [res0 p j he] at h
    exact absurd h (by decide)
theorem cut_ld {ws : List Int} {f : Int} (hf : 0 ≤ f) (hl : 16 * f + 16 ≤ ws.length) {k : Nat} (hk : k < 16) : (cutL ws (16 * f) 16)[k]? = some (ldV ws (16 * f + (k : Int))) := by
  have e : cutL ws (16 * f) 16 = (ws.drop (16 * f).toNat).take 16 := if_neg (by omega)
  rw [e, List.getElem?_take_of_lt hk, List.getElem?_drop]
  unfold ldV
  have hi : (16 * f).toNat + k < ws.length := by omega
  rw [if_pos (inM_rng (by omega) (by omega)), List.getElem?_eq_getElem hi, List.getD_eq_getElem?_getD]
  have e2 : (16 * f + (k : Int)).toNat = (16 * f).toNat + k := by omega
  rw [e2, List.getElem?_eq_getElem hi]
  rfl
theorem allZ_all {ws : List Int} {f : Int} (hf : 0 ≤ f) (hl : 16 * f + 16 ≤ ws.length) (h : allZ ws f = true) (k : Int) (h0 : 0 ≤ k) (h1 : k < 16) : ldV ws (16 * f + k) = 0 := by
  have hk := cut_ld hf hl (k := k.toNat) (by omega)
  unfold allZ at h
  rw [List.all_eq_true] at h
  have := h _ (List.mem_of_getElem? hk)
  rw [show ((k.toNat : Nat) : Int) = k from by omega] at this
  simpa using this
theorem allZ_not {ws : List Int} {f : Int} (hf : 0 ≤ f) (hl : 16 * f + 16 ≤ ws.length) (h : allZ ws f = false) : ∃ k : Int, 0 ≤ k ∧ k < 16 ∧ ldV ws (16 * f + k) ≠ 0 := by
  unfold allZ at h
  rw [List.all_eq_false] at h
  obtain ⟨v, hv, hv2⟩ := h
  obtain ⟨k, hk⟩ := List.getElem?_of_mem hv
  have hlen : (cutL ws (16 * f) 16).length = 16 := by
    have e : cutL ws (16 * f) 16 = (ws.drop (16 * f).toNat).take 16 := if_neg (by omega)
    rw [e, List.length_take, List.length_drop]; omega
  have hk16 : k < 16 := by have := (List.getElem?_eq_some_iff.1 hk).1; omega
  have := cut_ld hf hl hk16
  rw [hk] at this
  refine ⟨(k : Int), by omega, by omega, fun e => hv2 ?_⟩
  cases this
  simpa using e
/-- The tables up from a level. -/
def upF (F : Nat → Int) (p : Int) : Nat → Nat → List PT
  | j, 0 => [(F j, (j : Int), 16 * F j + px j p % 16, ())]
  | j, n + 1 => (F j, (j : Int), 16 * F j + px j p % 16, ()) :: upF F p (j + 1) n
structure Up (g : Gh) (s : WD) (o p : Int) (F : Nat → Int) (j : Nat) : Prop where
  gh : ∀ i, j ≤ i → i ≤ 3 → g (F i) = some (o, i, px (i + 1) p)
  ld : ∀ i, j ≤ i → i < 3 → entA s.1 (16 * F (i + 1) + px (i + 1) p % 16) = leadP (F i)
theorem upF_head (F : Nat → Int) (p : Int) (j n : Nat) : ∃ l, upF F p j n = (F j, (j : Int), 16 * F j + px j p % 16, ()) :: l := by cases n <;> exact ⟨_, rfl⟩
namespace Inv
theorem put {g : Gh} {s : WD} (I : Inv g s) {o r p : Int} (hr : g r = some (o, 3, 0)) (hp : 0 ≤ p ∧ p < 65536) {lv : Nat} {e : ET} (he1 : e.1 = true) (her : rightE e.1 e.2.1 e.2.2.1 e.2.2.2.1 = true) (het : tabP e = false) (hel : LeafOk lv e) (h0 : putE s r p lv = 0) :
    ∃ g', Chg (sameP o lv p) o g g' s (putS s o r p lv e) ∧ (∀ q, px lv q = px lv p → ∃ f, EndAt g' (putS s o r p lv e) o q f lv ∧ entA (putS s o r p lv e).1 (16 * f + px lv q % 16) = e) ∧
      (∃ f j, lv ≤ j ∧ EndAt g s o p f j ∧ (entA s.1 (16 * f + px j p % 16)).1 = false ∧ cntL (putS s o r p lv e).2 0 + (j - lv) = cntL s.2 0) ∧ (NEx g s none → NEx g' (putS s o r p lv e) none) := by
  obtain ⟨f, j, hj, he⟩ := I.end_at hr hp
  obtain ⟨eX, eP⟩ := I.endX_of hr hp he
  have h0' := h0
  unfold putE at h0'
  rw [eX, eP] at h0'
  dsimp only at h0'
  by_cases c1 : ((entA s.1 (16 * f + px j p % 16)).1 || decide (((j : Nat) : Int) < ((lv : Nat) : Int))) = true
  · rw [if_pos c1] at h0'; exact absurd h0' (by decide)
  rw [if_neg c1] at h0'
  by_cases c2 : (cntL s.2 0 : Int) < ((j : Nat) : Int) - ((lv : Nat) : Int)
  · rw [if_pos c2] at h0'; exact absurd h0' (by decide)
  simp only [Bool.or_eq_true, decide_eq_true_eq, not_or, Bool.not_eq_true] at c1
  obtain ⟨n, rfl⟩ : ∃ n, j = lv + n := ⟨j - lv, by omega⟩
  obtain ⟨g1, s1, f1, d1, C1, E1, z1, n1, x1⟩ := down hp lv n I he c1.1 (by omega)
  have hS : putS s o r p lv e = (stL s1.1 (16 * f1 + px lv p % 16) (pkP e), s1.2) := by
    unfold putS
    rw [if_pos h0, eX]
    have en : (((lv + n : Nat) : Int) - ((lv : Nat) : Int)).toNat = n := by omega
    dsimp only
    rw [en, d1]
    rfl
  rw [hS]
  have hv : entV (pkP e) = e := entV_pk her
  have hi := px_i p lv
  obtain ⟨I2, O2, K2, A2, e2⟩ := C1.inv.leaf_end (v := pkP e) E1.1 hi.1 hi.2 E1.2 (by rw [hv]; exact het) (by rw [hv]; exact hel) (fun h => by rw [hv, he1] at h; cases h) E1 rfl
  refine ⟨g1, (C1.mono fun _ _ h => h.elim).trans ⟨I2, .refl _, O2, K2, fun {m d} h k => ⟨d, h, k.elim (fun e => .inr ⟨e, e⟩) .inl⟩, stL_len _ _ _, rfl⟩, fun q hq => ⟨f1, (A2 q hq).1, ?_⟩, ⟨f, lv + n, by omega, he, c1.1, ?_⟩, fun h => ?_⟩
  · show entA (stL s1.1 _ _) _ = _
    rw [hq, e2, hv]
  · show cntL s1.2 0 + _ = _
    omega
  · intro f0 o0 l0 x0 h0 hl0 _
    by_cases ef : f0 = f1
    · subst ef
      exact ⟨_, hi.1, hi.2, by show (entA (stL s1.1 _ _) _).1 = true; rw [e2, hv]; exact he1⟩
    · obtain ⟨k, k1, k2, k3⟩ := x1 (h.some f) h0 hl0 (by simpa using ef)
      exact ⟨k, k1, k2, by show (entA (stL s1.1 _ _) _).1 = true; rw [ent_st (by omega)]; exact k3⟩
end Inv
end Go.Proofs.YtkldededdgpmbaaGreat
namespace Go.Proofs.YtkldededdgpmbaaGreat
set_option linter.unusedSimpArgs false
set_option linter.unusedVariables false
set_option maxRecDepth 100000
open Go.RX D
theorem xthin2 (x y : PT) (l : List PT) (t : WD) : thinS (x :: y :: l) t = if allZ t.1 x.1 = true then thinS (y :: l) (stL t.1 y.2.2.1 0, chL t.2 x.1 (turnG 5 0)) else t := rfl
theorem ent0 {ws : List Int} {a : Int} (h : ldV ws a = 0) : entA ws a = zE := by unfold entA; rw [h]; exact entV0
theorem Up.ne {g : Gh} {s : WD} {o p : Int} {F : Nat → Int} {j : Nat} (U : Up g s o p F j) {a b : Nat} (ha : j ≤ a) (ha3 : a ≤ 3) (hb : j ≤ b) (hb3 : b ≤ 3) (h : a ≠ b) : F a ≠ F b := fun e => by
  have h1 := U.gh a ha ha3
  rw [e, U.gh b hb hb3] at h1
  simp only [Option.some.injEq, Prod.mk.injEq, true_and] at h1
  exact h h1.1.symm
theorem right_t {r : Int} {l : Bool} {f : Int} : rightE true r l f = true ↔ (0 ≤ r ∧ r ≤ 7 ∧ 0 ≤ f ∧ f < 4096 ∧ (r > 0 ∨ l = false)) := by
  unfold rightE
  cases l <;> simp <;> omega
theorem tab_f {p : Bool} {r : Int} {l : Bool} {f : Int} (h : r ≠ 0) : tabP (p, r, l, f, ()) = false := by
  unfold tabP tableE
  simp [h]
namespace Inv
theorem split {g : Gh} {s : WD} (I : Inv g s) {o r p : Int} (hr : g r = some (o, 3, 0)) (hp : 0 ≤ p ∧ p < 65536) {f : Int} {j : Nat} (he : EndAt g s o p f j) (hpr : (entA s.1 (16 * f + px j p % 16)).1 = true) (h0 : splE s o r p = 0) :
    ∃ g' f', Chg noP o g g' s (splS s o r p) ∧ EndAt g' (splS s o r p) o p f' 0 ∧ cntL (splS s o r p).2 0 + j = cntL s.2 0 ∧ (NEx g s none → NEx g' (splS s o r p) none) := by
  obtain ⟨eX, eP⟩ := I.endX_of hr hp he
  have hi := px_i p j
  rcases I.leaf he.1 hi.1 hi.2 hpr he.2 with ⟨rfl, _⟩ | ⟨rfl, hlg, hal⟩
  · have hS : splS s o r p = s := by unfold splS; rw [eX]; exact if_pos rfl
    rw [hS]
    exact ⟨g, f, .refl I _ _, he, rfl, fun h => h⟩
  · have hE : splE s o r p = tkE s o := by unfold splE; rw [eX]; exact if_neg (by show ¬ ((1 : Int) = 0); decide)
    rw [hE] at h0
    have hS : splS s o r p = layS (tkS s o (splG (entA s.1 (16 * f + px 1 p % 16)))) (16 * f + px 1 p % 16) (leadP (tkF s o)) := by
      unfold splS; rw [eX, eP]
      rw [if_neg (by show ¬ ((1 : Int) = 0); decide), if_pos h0]
    have hk := I.kd he.1
    have hc : 0 < cntL s.2 0 := by
      rcases Nat.eq_zero_or_pos (cntL s.2 0) with e | e
      · exact absurd h0 (tkE_none e (by omega))
      · exact e
    have her := entA_right s.1 (16 * f + px 1 p % 16)
    rw [hS]
    have htab := he.2
    generalize hent : entA s.1 (16 * f + px 1 p % 16) = e at hlg hal her hpr htab ⊢
    obtain ⟨ep, er, el, ef, eu⟩ := e
    dsimp only at hlg hal her hpr
    subst hlg; subst hpr
    obtain ⟨b1, b2, b3, b4, b5⟩ := right_t.1 her
    have b5 : er > 0 := b5.elim id (fun h => by cases h)
    have hG : ∀ k : Int, 0 ≤ k → k < 16 → entV (splG (true, er, true, ef, ()) k) = (true, er, false, ef + k, ()) := fun k k0 k1 => by
      show entV (pkW true er false (ef + k)) = _
      exact entV_pk (right_t.2 ⟨b1, b2, by omega, by omega, .inr rfl⟩)
    have hGc : ∀ k, 0 ≤ k → k < 16 → tabP (entV (splG (true, er, true, ef, ()) k)) = false ∧ LeafOk 0 (entV (splG (true, er, true, ef, ()) k)) ∧ ((entV (splG (true, er, true, ef, ()) k)).1 = false → splG (true, er, true, ef, ()) k = 0) := fun k k0 k1 => by
      rw [hG k k0 k1]
      exact ⟨tab_f (by omega), fun _ _ => .inl ⟨rfl, rfl⟩, fun h => by cases h⟩
    obtain ⟨q0, q1, q2, q3, q4, q5, q6, q7, q8, q9⟩ := I.grow_end (m := 0) he.1 hi.1 hi.2 he.2 hc (splG (true, er, true, ef, ())) hGc (fun p' hp0 hp' => by
      rw [hG _ (px_i p' 0).1 (px_i p' 0).2, hent]; rfl)
    obtain ⟨_, u1, _, _, _, _, u2, u4, u3, _⟩ := I.grow (m := 0) he.1 hi.1 hi.2 he.2 hc (splG (true, er, true, ef, ())) hGc
    obtain ⟨e1, e2⟩ := q7 p he rfl
    have hcnt := cnt_set (d' := (3, o, 0, 0, ())) q6 0
    refine ⟨_, tkF s o, ⟨q1, q2, q3, q4, fun {m d} hd hk => by rw [q5]; exact kk_set q6 (fun h => by rcases h with h | h <;> exact absurd h (by decide)) hd hk, lay_len _ _ _ _ _, by rw [q5, List.length_set]⟩, e1, ?_, ?_⟩
    · rw [q5]
      simpa [zD] using hcnt
    · intro h f0 o0 l0 x0 h0 hl0 _
      by_cases hn1 : f0 = tkF s o
      · subst hn1
        exact ⟨0, by decide, by decide, by rw [u4 0 (by decide) (by decide), hG 0 (by decide) (by decide)]⟩
      · rw [setG_ne hn1] at h0
        by_cases e : f0 = f
        · subst e
          exact ⟨_, hi.1, hi.2, by rw [u3]; rfl⟩
        · obtain ⟨k, k1, k2, k3⟩ := h h0 hl0 (by simp)
          exact ⟨k, k1, k2, by rw [u2 _ (by omega) (by omega)]; exact k3⟩
theorem thin {o p : Int} (hp : 0 ≤ p ∧ p < 65536) {F : Nat → Int} : ∀ (n : Nat) {j : Nat} {g : Gh} {s : WD}, j + n = 3 → Inv g s → Up g s o p F j →
    ∃ g', Chg noP o g g' s (thinS (upF F p j n) s) ∧ cntL (thinS (upF F p j n) s).2 0 = cntL s.2 0 ∧ (NEx g s (some (F j)) → NEx g' (thinS (upF F p j n) s) none)
  | 0, j, g, s, hj, I, U => by
    refine ⟨g, .refl I _ _, rfl, fun h f0 o0 l0 x0 h0 hl0 _ => h h0 hl0 (fun e => ?_)⟩
    have h3 := U.gh j (Nat.le_refl _) (by omega)
    cases e
    rw [h0] at h3
    simp only [Option.some.injEq, Prod.mk.injEq] at h3
    omega
  | n + 1, j, g, s, hj, I, U => by
    obtain ⟨l', hl'⟩ := upF_head F p (j + 1) n
    have hup : upF F p j (n + 1) = (F j, (j : Int), 16 * F j + px j p % 16, ()) :: (F (j + 1), ((j + 1 : Nat) : Int), 16 * F (j + 1) + px (j + 1) p % 16, ()) :: l' := by rw [upF, hl']
    have g0 := U.gh j (Nat.le_refl _) (by omega)
    have g1 := U.gh (j + 1) (by omega) (by omega)
    have hld := U.ld j (Nat.le_refl _) (by omega)
    have hi := px_i p (j + 1)
    have r0 := I.rng g0
    rw [hup, xthin2]
    cases ha : allZ s.1 (F j) with
    | false =>
      rw [if_neg (by decide)]
      refine ⟨g, .refl I _ _, rfl, fun h f0 o0 l0 x0 h0 hl0 _ => ?_⟩
      by_cases e : f0 = F j
      · subst e
        obtain ⟨k, k0, k1, k2⟩ := allZ_not r0.1 r0.2.2 ha
        refine ⟨k, k0, k1, ?_⟩
        cases hb : (entA s.1 (16 * F j + k)).1 with
        | true => rfl
        | false => exact absurd (I.wf g0 k0 k1 hb) k2
      · exact h h0 hl0 (by simpa using e)
    | true =>
      rw [if_pos rfl]
      dsimp only
      have hg0 : g (F j) = some (o, j, 16 * px (j + 1 + 1) p + px (j + 1) p % 16) := by rw [← px_step]; exact g0
      obtain ⟨q1, q2, q3, q4, q5, q6, q7, q8⟩ := I.prune_end g1 hi.1 hi.2 hg0 hld (fun k k0 k1 => ent0 (allZ_all r0.1 r0.2.2 ha k k0 k1))
      dsimp only at q1 q2 q3 q4 q5 q6 q7 q8
      have C1 : Chg noP o g (setG g (F j) none) s (stL s.1 (16 * F (j + 1) + px (j + 1) p % 16) 0, chL s.2 (F j) (turnG 5 0)) :=
        ⟨q1, q2, q3, q4, fun {m d} hd hk => by rw [q5]; exact kk_set q6 (fun _ => rfl) hd hk, stL_len _ _ _, by rw [q5, List.length_set]⟩
      have U1 : Up (setG g (F j) none) (stL s.1 (16 * F (j + 1) + px (j + 1) p % 16) 0, chL s.2 (F j) (turnG 5 0)) o p F (j + 1) := by
        refine ⟨fun i h1 h2 => ?_, fun i h1 h2 => ?_⟩
        · rw [setG_ne (U.ne (by omega) h2 (Nat.le_refl _) (by omega) (by omega))]
          exact U.gh i (by omega) h2
        · have hne := U.ne (a := i + 1) (b := j + 1) (by omega) (by omega) (by omega) (by omega) (by omega)
          have hi2 := px_i p (i + 1)
          show entA (stL _ _ _) _ = _
          rw [ent_st (by omega)]
          exact U.ld i (by omega) h2
      obtain ⟨g', c1, c2, c3⟩ := thin hp n (by omega) q1 U1
      rw [hl'] at c1 c2 c3
      refine ⟨g', C1.trans c1, c2.trans ?_, fun h => c3 fun f0 o0 l0 x0 h0 hl0 hn0 => ?_⟩
      · have := cnt_set (d' := (5, o, 0, 0, ())) q6 0
        rw [q5]
        simpa using this
      · have n1 : f0 ≠ F j := fun e => by rw [e, setG_self] at h0; cases h0
        have n2 : f0 ≠ F (j + 1) := fun e => hn0 (by rw [e])
        rw [setG_ne n1] at h0
        obtain ⟨k, k0, k1, k2⟩ := h h0 hl0 (by simpa using n1)
        exact ⟨k, k0, k1, by show (entA (stL _ _ _) _).1 = true; rw [ent_st (by omega)]; exact k2⟩
end Inv
end Go.Proofs.YtkldededdgpmbaaGreat
namespace Go.Proofs.YtkldededdgpmbaaGreat
set_option linter.unusedSimpArgs false
set_option linter.unusedVariables false
set_option maxRecDepth 100000
open Go.RX D
/-! ### What Map, Large, Unmap, Protect do -/
theorem px_sq {p q : Int} (l : Nat) (h : q = p) : px l q = px l p := by rw [h]
namespace Inv
variable {g : Gh} {s : WD}
theorem way4 (I : Inv g s) {o r p f0 : Int} (hr : g r = some (o, 3, 0)) (hp : 0 ≤ p ∧ p < 65536) (E : EndAt g s o p f0 0) :
    ∃ F : Nat → Int, F 0 = f0 ∧ Up g s o p F 0 ∧ (wayL s.1 p 3 r).reverse = upF F p 0 3 := by
  obtain ⟨f1, a1, b1⟩ := I.par E.1 (by decide)
  obtain ⟨f2, a2, b2⟩ := I.par a1 (by decide)
  obtain ⟨f3, a3, b3⟩ := I.par a2 (by decide)
  have e3 : f3 = r := by
    refine I.inj a3 ?_
    rw [hr]
    have := px4 hp
    simp only [px] at this ⊢
    rw [this]
  subst e3
  have r0 := I.rng E.1
  have r1 := I.rng a1
  have r2 := I.rng a2
  have r3 := I.rng a3
  refine ⟨fun i => match i with | 0 => f0 | 1 => f1 | 2 => f2 | _ => f3, rfl, ⟨fun i _ h => ?_, fun i _ h => ?_⟩, ?_⟩
  · rcases i with _ | _ | _ | _ | i
    · exact E.1
    · exact a1
    · exact a2
    · exact a3
    · omega
  · rcases i with _ | _ | _ | i
    · exact b1
    · exact b2
    · exact b3
    · omega
  · have q3 := at_px ⟨r3.1, r3.2.1⟩ hp (l := 3) (by omega)
    have q2 := at_px ⟨r2.1, r2.2.1⟩ hp (l := 2) (by omega)
    have q1 := at_px ⟨r1.1, r1.2.1⟩ hp (l := 1) (by omega)
    have q0 := at_px ⟨r0.1, r0.2.1⟩ hp (l := 0) (by omega)
    have t2 := lead_tab ⟨r2.1, r2.2.1⟩
    have t1 := lead_tab ⟨r1.1, r1.2.1⟩
    have t0 := lead_tab ⟨r0.1, r0.2.1⟩
    have c3 : entA s.1 (atI f3 p ((2 + 1 : Nat) : Int)) = leadP f2 := by rw [q3]; exact b3
    have c2 : entA s.1 (atI f2 p ((1 + 1 : Nat) : Int)) = leadP f1 := by rw [q2]; exact b2
    have c1 : entA s.1 (atI f1 p ((0 + 1 : Nat) : Int)) = leadP f0 := by rw [q1]; exact b1
    have w0 : wayL s.1 p 0 f0 = [(f0, 0, atI f0 p 0, ())] := rfl
    have w1 : wayL s.1 p 1 f1 = [(f1, ((0 + 1 : Nat) : Int), atI f1 p ((0 + 1 : Nat) : Int), ()), (f0, 0, atI f0 p 0, ())] := by rw [wayL, c1, if_pos t0]; rfl
    have w2 : wayL s.1 p 2 f2 = [(f2, ((1 + 1 : Nat) : Int), atI f2 p ((1 + 1 : Nat) : Int), ()), (f1, ((0 + 1 : Nat) : Int), atI f1 p ((0 + 1 : Nat) : Int), ()), (f0, 0, atI f0 p 0, ())] := by
      rw [wayL, c2, if_pos t1]
      show _ :: wayL s.1 p 1 f1 = _
      rw [w1]
    have w3 : wayL s.1 p 3 f3 = [(f3, ((2 + 1 : Nat) : Int), atI f3 p ((2 + 1 : Nat) : Int), ()), (f2, ((1 + 1 : Nat) : Int), atI f2 p ((1 + 1 : Nat) : Int), ()), (f1, ((0 + 1 : Nat) : Int), atI f1 p ((0 + 1 : Nat) : Int), ()), (f0, 0, atI f0 p 0, ())] := by
      rw [wayL, c3, if_pos t2]
      show _ :: wayL s.1 p 2 f2 = _
      rw [w2]
    have q0' : atI f0 p 0 = 16 * f0 + px 0 p % 16 := q0
    have q1' : atI f1 p ((0 + 1 : Nat) : Int) = 16 * f1 + px 1 p % 16 := q1
    have q2' : atI f2 p ((1 + 1 : Nat) : Int) = 16 * f2 + px 2 p % 16 := q2
    have q3' : atI f3 p ((2 + 1 : Nat) : Int) = 16 * f3 + px 3 p % 16 := q3
    rw [w3, q0', q1', q2', q3']
    rfl
theorem kk_refl {s : WD} {n : Nat} {d : DT} (h : s.2[n]? = some d) (k : d.1 = 3 ∨ d.1 = 5) : ∃ d' : DT, s.2[n]? = some d' ∧ (d'.1 = 5 ∨ (d'.1 = 3 ∧ d.1 = 3)) := ⟨d, h, k.elim (fun e => .inr ⟨e, e⟩) .inl⟩
theorem unmap (I : Inv g s) {o r p : Int} (hr : g r = some (o, 3, 0)) (hp : 0 ≤ p ∧ p < 65536) (h0 : unmE s o r false p = 0) :
    ∃ g', Chg (sameP o 0 p) o g g' s (unmS s o r false p) ∧ qryV (unmS s o r false p) r false p = (0, 0, 4, ()) ∧ (qryV s r false p).2.2.1 = 0 ∧
      (∃ f j, j ≤ 1 ∧ EndAt g s o p f j ∧ (entA s.1 (16 * f + px j p % 16)).1 = true ∧ cntL (unmS s o r false p).2 0 + j = cntL s.2 0) ∧ (NEx g s none → NEx g' (unmS s o r false p) none) := by
  have hq : (qryV s r false p).2.2.1 = 0 := by
    unfold unmE at h0
    by_cases h : (qryV s r false p).2.2.1 = 0
    · exact h
    · rw [if_neg h] at h0; exact h0
  have hs : splE s o r p = 0 := by unfold unmE at h0; rw [if_pos hq] at h0; exact h0
  obtain ⟨f, j, hj, he⟩ := I.end_at hr hp
  have hq2 := hq
  rw [I.qry_of hr hp he] at hq2
  have hpr := resE_ok hq2
  have hj1 : j ≤ 1 := by
    rcases I.leaf he.1 (px_i p j).1 (px_i p j).2 hpr he.2 with h | h <;> omega
  obtain ⟨g1, f0, C1, E1, c1, n1⟩ := I.split hr hp he hpr hs
  have hU : unmS s o r false p = thinS (wayL (splS s o r p).1 p 3 r).reverse (stL (splS s o r p).1 (endX (splS s o r p).1 r p).2.2.1 0, (splS s o r p).2) := by
    unfold unmS; rw [if_pos hq, if_pos hs]
  have hr1 := C1.root.to hr
  have eX1 := (C1.inv.endX_of hr1 hp E1).1
  rw [hU, eX1]
  generalize splS s o r p = t at *
  have hi := px_i p 0
  obtain ⟨I2, O2, K2, A2, e2⟩ := C1.inv.leaf_end (v := 0) E1.1 hi.1 hi.2 E1.2 (by rw [entV0]; exact tab0) (by rw [entV0]; exact leaf0 _) (fun _ => rfl) E1 rfl
  obtain ⟨F, hF, U, hW⟩ := C1.inv.way4 hr1 hp E1
  rw [hW]
  dsimp only
  have U2 : Up g1 (stL t.1 (16 * f0 + px 0 p % 16) 0, t.2) o p F 0 := by
    refine ⟨U.gh, fun i h1 h2 => ?_⟩
    have hne := U.ne (a := i + 1) (b := 0) (by omega) (by omega) (by omega) (by omega) (by omega)
    have hi2 := px_i p (i + 1)
    rw [hF] at hne
    show entA (stL _ _ _) _ = _
    rw [ent_st (by omega)]
    exact U.ld i h1 h2
  obtain ⟨g3, C3, c3, n3⟩ := thin hp 3 rfl I2 U2
  have C2 : Chg (sameP o 0 p) o g1 g1 t (stL t.1 (16 * f0 + px 0 p % 16) 0, t.2) := ⟨I2, .refl _, O2, K2, fun h k => kk_refl h k, stL_len _ _ _, rfl⟩
  refine ⟨g3, ((C1.mono fun _ _ h => h.elim).trans C2).trans (C3.mono fun _ _ h => h.elim), ?_, hq, ⟨f, j, hj1, he, hpr, ?_⟩, fun h => ?_⟩
  · obtain ⟨f', j', h1, h2⟩ := C3.endk (fun h => h) (A2 p rfl).1
    rw [C3.inv.qry_of (C3.root.to hr1) hp h1, h2]
    show resE p 0 (entA (stL t.1 _ _) _) = _
    rw [e2, entV0]; rfl
  · show cntL _ 0 + j = _
    rw [c3]; exact c1
  · refine n3 fun f1 o1 l1 x1 h1 hl1 hn1 => ?_
    rw [hF] at hn1
    have hn2 : f1 ≠ f0 := fun e => hn1 (by rw [e])
    obtain ⟨k, k0, k1, k2⟩ := n1 h h1 hl1 (by simp)
    exact ⟨k, k0, k1, by show (entA (stL _ _ _) _).1 = true; rw [ent_st (by omega)]; exact k2⟩
theorem protect (I : Inv g s) {o r p rt : Int} (hr : g r = some (o, 3, 0)) (h0 : proE s o r false p rt = 0) :
    (0 ≤ p ∧ p < 65536) ∧ ∃ g', Chg (sameP o 0 p) o g g' s (proS s o r false p rt) ∧ (qryV s r false p).2.2.1 = 0 ∧ qryV (proS s o r false p rt) r false p = ((qryV s r false p).1, rt, 0, ()) ∧
      cntL s.2 0 ≤ cntL (proS s o r false p rt).2 0 + 1 := by
  have hff : ¬ (false = true) := by decide
  unfold proE at h0
  rw [if_neg hff] at h0
  have hR : rgtE p 0 rt = 0 := by
    by_cases h : rgtE p 0 rt = 0
    · exact h
    · rw [if_neg h] at h0; exact h0
  rw [if_pos hR] at h0
  have hrg : (0 ≤ p ∧ p < 65536) ∧ 1 ≤ rt ∧ rt ≤ 7 := by
    unfold rgtE at hR
    by_cases h1 : p < 0 ∨ p ≥ 65536 ∨ (0 : Int) < 0 ∨ (0 : Int) ≥ 4096
    · rw [if_pos h1] at hR; exact absurd hR (by decide)
    · rw [if_neg h1] at hR
      by_cases h2 : rt < 1 ∨ rt > 7
      · rw [if_pos h2] at hR; exact absurd hR (by decide)
      · omega
  obtain ⟨hp, hrt⟩ := hrg
  refine ⟨hp, ?_⟩
  obtain ⟨f, j, hj, he⟩ := I.end_at hr hp
  obtain ⟨eX, eP⟩ := I.endX_of hr hp he
  have hQ := I.qry_of hr hp he
  by_cases c1 : (endP s.1 r p).1 = true
  · rw [if_pos c1] at h0
    have hS : proS s o r false p rt = (if ((endP s.1 r p).2.2.1 && (endP s.1 r p).2.1 == rt) = true then s
        else if splE s o r p = 0 then layS (splS s o r p) (endX (splS s o r p).1 r p).2.2.1 (true, rt, false, frmP p (endX s.1 r p) (endP s.1 r p), ()) else splS s o r p) := by
      unfold proS; rw [if_neg hff, if_pos hR, if_pos c1]
    rw [hS]
    have c1' : (entA s.1 (16 * f + px j p % 16)).1 = true := by rw [← eP]; exact c1
    have hqe : qryV s r false p = (frmP p (endX s.1 r p) (endP s.1 r p), (endP s.1 r p).2.1, 0, ()) := by
      unfold qryV
      rw [if_neg hff, if_neg (by omega), if_pos c1]
    by_cases c2 : ((endP s.1 r p).2.2.1 && (endP s.1 r p).2.1 == rt) = true
    · rw [if_pos c2]
      refine ⟨g, .refl I _ _, by rw [hqe], ?_, by omega⟩
      rw [hqe]
      simp only [Bool.and_eq_true, beq_iff_eq] at c2
      rw [c2.2]
    · rw [if_neg c2] at h0
      rw [if_neg c2, if_pos h0]
      obtain ⟨g1, f0, C1, E1, d1, n1⟩ := I.split hr hp he c1' h0
      have hr1 := C1.root.to hr
      have eX1 := (C1.inv.endX_of hr1 hp E1).1
      rw [eX1]
      have hfr : 0 ≤ frmP p (endX s.1 r p) (endP s.1 r p) ∧ frmP p (endX s.1 r p) (endP s.1 r p) < 4096 := by
        have her := entA_right s.1 (16 * f + px j p % 16)
        have hlf := I.leaf he.1 (px_i p j).1 (px_i p j).2 c1' he.2
        rw [eP, eX]
        generalize entA s.1 (16 * f + px j p % 16) = e at *
        obtain ⟨ep, er, el, ef, eu⟩ := e
        dsimp only at c1' her hlf
        subst c1'
        obtain ⟨b1, b2, b3, b4, b5⟩ := right_t.1 her
        unfold frmP
        dsimp only
        rcases hlf with ⟨rfl, _⟩ | ⟨rfl, _, hal⟩
        · rw [if_neg (by decide)]; exact ⟨b3, b4⟩
        · rw [if_pos (by decide)]; omega
      have hj1 : j ≤ 1 := by
        rcases I.leaf he.1 (px_i p j).1 (px_i p j).2 c1' he.2 with h | h <;> omega
      have hf1 : (qryV s r false p).1 = frmP p (endX s.1 r p) (endP s.1 r p) := by rw [hqe]
      rw [hf1]
      generalize frmP p (endX s.1 r p) (endP s.1 r p) = fr at *
      generalize splS s o r p = t at *
      have hv : entV (pkP (true, rt, false, fr, ())) = (true, rt, false, fr, ()) := by
        show entV (pkW true rt false fr) = _
        exact entV_pk (right_t.2 ⟨by omega, by omega, hfr.1, hfr.2, .inr rfl⟩)
      have hi := px_i p 0
      obtain ⟨I2, O2, K2, A2, e2⟩ := C1.inv.leaf_end (v := pkP (true, rt, false, fr, ())) E1.1 hi.1 hi.2 E1.2 (by rw [hv]; exact tab_f (by omega)) (by rw [hv]; exact fun _ _ => .inl ⟨rfl, rfl⟩) (fun h => by rw [hv] at h; cases h) E1 rfl
      have C2 : Chg (sameP o 0 p) o g1 g1 t (stL t.1 (16 * f0 + px 0 p % 16) (pkP (true, rt, false, fr, ())), t.2) := ⟨I2, .refl _, O2, K2, fun h k => kk_refl h k, stL_len _ _ _, rfl⟩
      refine ⟨g1, (C1.mono fun _ _ h => h.elim).trans C2, by rw [hqe], ?_, ?_⟩
      · show qryV (stL t.1 (16 * f0 + px 0 p % 16) _, t.2) r false p = _
        rw [I2.qry_of hr1 hp (A2 p rfl).1]
        show resE p 0 (entA (stL t.1 _ _) _) = _
        rw [e2, hv]; rfl
      · show _ ≤ cntL t.2 0 + 1
        omega
  · rw [if_neg c1] at h0; exact absurd h0 (by decide)
theorem map (I : Inv g s) {o r p f rt : Int} (hr : g r = some (o, 3, 0)) (h0 : mapE s r false p f rt = 0) :
    (0 ≤ p ∧ p < 65536) ∧ ∃ g', Chg (sameP o 0 p) o g g' s (mapS s o r false p f rt) ∧ qryV (mapS s o r false p f rt) r false p = (f, rt, 0, ()) ∧ 1 ≤ rt ∧ (qryV s r false p).2.2.1 = 4 ∧
      (∃ f0, EndAt g' (mapS s o r false p f rt) o p f0 0) ∧
      (∃ f0 j, EndAt g s o p f0 j ∧ cntL (mapS s o r false p f rt).2 0 + j = cntL s.2 0) ∧ (NEx g s none → NEx g' (mapS s o r false p f rt) none) := by
  have hff : ¬ (false = true) := by decide
  unfold mapE at h0
  rw [if_neg hff] at h0
  have hR : rgtE p f rt = 0 := by
    by_cases h : rgtE p f rt = 0
    · exact h
    · rw [if_neg h] at h0; exact h0
  rw [if_pos hR] at h0
  have hrg : (0 ≤ p ∧ p < 65536) ∧ (0 ≤ f ∧ f < 4096) ∧ 1 ≤ rt ∧ rt ≤ 7 := by
    unfold rgtE at hR
    by_cases h1 : p < 0 ∨ p ≥ 65536 ∨ f < 0 ∨ f ≥ 4096
    · rw [if_pos h1] at hR; exact absurd hR (by decide)
    · rw [if_neg h1] at hR
      by_cases h2 : rt < 1 ∨ rt > 7
      · rw [if_pos h2] at hR; exact absurd hR (by decide)
      · omega
  obtain ⟨hp, hfr, hrt⟩ := hrg
  have hS : mapS s o r false p f rt = putS s o r p 0 (true, rt, false, f, ()) := by unfold mapS; rw [if_neg hff, if_pos hR]
  rw [hS]
  have hrr : rightE true rt false f = true := right_t.2 ⟨by omega, by omega, hfr.1, hfr.2, .inr rfl⟩
  obtain ⟨g', C, A, ⟨f1, j, hj, he, hz, hc⟩, hN⟩ := I.put hr hp (lv := 0) (e := (true, rt, false, f, ())) rfl hrr (tab_f (by omega)) (fun _ _ => .inl ⟨rfl, rfl⟩) h0
  obtain ⟨f2, E2, v2⟩ := A p rfl
  refine ⟨hp, g', C, ?_, hrt.1, ?_, ⟨f2, E2⟩, ⟨f1, j, he, hc⟩, hN⟩
  · have h := C.inv.qry_of (C.root.to hr) hp E2
    rw [v2] at h
    exact h
  · rw [I.qry_of hr hp he, res0 _ _ hz]
theorem large (I : Inv g s) {o r p f rt : Int} (hr : g r = some (o, 3, 0)) (h0 : lrgE s r false p f rt = 0) :
    (0 ≤ p ∧ p < 65536) ∧ p % 16 = 0 ∧ ∃ g', Chg (sameP o 1 p) o g g' s (lrgS s o r false p f rt) ∧ (∀ q, 0 ≤ q ∧ q < 65536 → px 1 q = px 1 p → qryV (lrgS s o r false p f rt) r false q = (f + q % 16, rt, 0, ()) ∧ ∃ f0, EndAt g' (lrgS s o r false p f rt) o q f0 1) ∧ 1 ≤ rt ∧
      (∃ f0 j, 1 ≤ j ∧ EndAt g s o p f0 j ∧ (entA s.1 (16 * f0 + px j p % 16)).1 = false ∧ cntL (lrgS s o r false p f rt).2 0 + (j - 1) = cntL s.2 0) ∧ (NEx g s none → NEx g' (lrgS s o r false p f rt) none) := by
  have hff : ¬ (false = true) := by decide
  unfold lrgE at h0
  rw [if_neg hff] at h0
  have hR : rgtE p f rt = 0 := by
    by_cases h : rgtE p f rt = 0
    · exact h
    · rw [if_neg h] at h0; exact h0
  rw [if_pos hR] at h0
  have hA : ¬ algE p f = true := fun h => by rw [if_pos h] at h0; exact absurd h0 (by decide)
  rw [if_neg hA] at h0
  have hrg : (0 ≤ p ∧ p < 65536) ∧ (0 ≤ f ∧ f < 4096) ∧ 1 ≤ rt ∧ rt ≤ 7 := by
    unfold rgtE at hR
    by_cases h1 : p < 0 ∨ p ≥ 65536 ∨ f < 0 ∨ f ≥ 4096
    · rw [if_pos h1] at hR; exact absurd hR (by decide)
    · rw [if_neg h1] at hR
      by_cases h2 : rt < 1 ∨ rt > 7
      · rw [if_pos h2] at hR; exact absurd hR (by decide)
      · omega
  obtain ⟨hp, hfr, hrt⟩ := hrg
  have hal : p % 16 = 0 ∧ f % 16 = 0 := by
    unfold algE at hA
    simp only [Bool.or_eq_true, decide_eq_true_eq, not_or] at hA
    omega
  have hS : lrgS s o r false p f rt = putS s o r p 1 (true, rt, true, f, ()) := by unfold lrgS; rw [if_neg hff, if_pos hR, if_neg hA]
  rw [hS]
  have hrr : rightE true rt true f = true := right_t.2 ⟨by omega, by omega, hfr.1, hfr.2, .inl (by omega)⟩
  obtain ⟨g', C, A, hold, hN⟩ := I.put hr hp (lv := 1) (e := (true, rt, true, f, ())) rfl hrr (tab_f (by omega)) (fun _ _ => .inr ⟨rfl, rfl, hal.2⟩) h0
  refine ⟨hp, hal.1, g', C, fun q hq hqp => ?_, hrt.1, hold, hN⟩
  obtain ⟨f2, E2, v2⟩ := A q hqp
  have h := C.inv.qry_of (C.root.to hr) hq E2
  rw [v2] at h
  exact ⟨h, f2, E2⟩
end Inv
end Go.Proofs.YtkldededdgpmbaaGreat
namespace Go.Proofs.YtkldededdgpmbaaGreat
set_option linter.unusedSimpArgs false
set_option linter.unusedVariables false
set_option maxRecDepth 100000
open Go.RX D
/-! ### A root is made; a forest without tables -/
def fresh (n m : Nat) : WD := (List.replicate n 0, List.replicate m zD)
abbrev noG : Gh := fun _ => none
theorem cnt_rep (m : Nat) (v : Int) : cntL (List.replicate m zD) v = if v = 0 then m else 0 := by
  unfold cntL
  rw [List.countP_replicate]
  by_cases h : v = 0
  · subst h; rfl
  · rw [if_neg h, if_neg]
    show ¬ (((0 : Int) == v) = true)
    simp; omega
theorem ld_fresh (n m : Nat) (b : Int) : ldV (fresh n m).1 b = 0 := by
  unfold ldV fresh
  split
  · rename_i h
    have := inM_iff.1 h
    rw [List.length_replicate] at this
    show (List.replicate n (0 : Int)).getD b.toNat 0 = 0
    rw [List.getD_eq_getElem?_getD, List.getElem?_replicate]
    split <;> rfl
  · rfl
theorem inv_fresh {n m : Nat} (h : 16 * m ≤ n) (hm : m ≤ 4096) : Inv noG (fresh n m) where
  len := by
    show 16 * (List.replicate m zD).length ≤ (List.replicate n (0 : Int)).length
    simpa using h
  le := by
    show (List.replicate m zD).length ≤ 4096
    simpa using hm
  fz := fun d hd _ => List.eq_of_mem_replicate hd
  kd := by intro f o l x h; cases h
  inj := by intro f o l h; cases h
  tab := by intro f o l x i h; cases h
  leaf := by intro f o l x i h; cases h
  par := by intro f o l x h; cases h
  wf := by intro f o l x i h; cases h
  tb := by
    intro k d hd h3
    have : d = zD := List.eq_of_mem_replicate (List.mem_of_getElem? hd)
    subst this
    cases h3
namespace Inv
variable {g : Gh} {s : WD}
/-- A root is made. -/
theorem born (I : Inv g s) {o : Int} (ho : 1 ≤ o ∧ o ≤ 16) (hno : ∀ f, g f ≠ some (o, 3, 0)) (hc : 0 < cntL s.2 0) :
    tkE s o = 0 ∧ g (tkF s o) = none ∧ 0 ≤ tkF s o ∧ tkF s o < s.2.length ∧ (tkS s o fun _ => 0).2 = s.2.set (tkF s o).toNat (3, o, 0, 0, ()) ∧ s.2[(tkF s o).toNat]? = some zD ∧
    (∀ b, (b < 16 * tkF s o ∨ 16 * tkF s o + 16 ≤ b) → ldV (tkS s o fun _ => 0).1 b = ldV s.1 b) ∧
    (∀ k, 0 ≤ k → k < 16 → ldV (tkS s o fun _ => 0).1 (16 * tkF s o + k) = 0) ∧ (tkS s o fun _ => 0).1.length = s.1.length ∧
    Inv (setG g (tkF s o) (some (o, 3, 0))) (tkS s o fun _ => 0) := by
  obtain ⟨n, hn1, hn2, e1, e2, e3⟩ := take_free hc I.fz ho
  have eF : tkF s o = (n : Int) := e1
  have eE : tkE s o = 0 := e2
  have hlen := I.len
  have hle := I.le
  have hlen' : 16 * (n : Int) + 16 ≤ s.1.length := by omega
  obtain ⟨W, hW⟩ : ∃ W, W = fillL s.1 (n : Int) (fun _ => 0) 16 := ⟨_, rfl⟩
  have hWl : W.length = s.1.length := by rw [hW, fillL_len]
  have hWd : ∀ b, ldV W b = if 16 * (n : Int) ≤ b ∧ b < 16 * (n : Int) + 16 then 0 else ldV s.1 b := fun b => by
    rw [hW]; exact ld_fill (by omega) hlen' 16 (Nat.le_refl _) b
  have eS : tkS s o (fun _ => 0) = (W, s.2.set n (3, o, 0, 0, ())) := by unfold tkS; rw [if_pos eE, eF, e3, hW]
  clear hW
  have gn : g (n : Int) = none := by
    cases hg : g (n : Int) with
    | none => rfl
    | some v =>
      obtain ⟨a, b, c⟩ := v
      have := (I.kd hg).2.2.1
      rw [show ((n : Int)).toNat = n from rfl, hn2] at this
      cases this
  have hne : ∀ {f' : Int} {v}, g f' = some v → f' ≠ (n : Int) := fun h e => by rw [e, gn] at h; cases h
  rw [eS, eF]
  have v1 : ∀ b, (b < 16 * (n : Int) ∨ 16 * (n : Int) + 16 ≤ b) → ldV W b = ldV s.1 b := fun b h => by rw [hWd b, if_neg (by omega)]
  have v2 : ∀ k, 0 ≤ k → k < 16 → ldV W (16 * (n : Int) + k) = 0 := fun k h0 h1 => by rw [hWd, if_pos (by omega)]
  have w1 : ∀ b, (b < 16 * (n : Int) ∨ 16 * (n : Int) + 16 ≤ b) → entA W b = entA s.1 b := fun b h => by unfold entA; rw [v1 b h]
  have w2 : ∀ k, 0 ≤ k → k < 16 → entA W (16 * (n : Int) + k) = zE := fun k h0 h1 => by unfold entA; rw [v2 k h0 h1]; exact entV0
  have old : ∀ {f0 o0 x0 k : Int} {l0 : Nat}, g f0 = some (o0, l0, x0) → 0 ≤ k → k < 16 → entA W (16 * f0 + k) = entA s.1 (16 * f0 + k) := fun {f0 o0 x0 k l0} h h0 h1 => by
    have := hne h
    exact w1 _ (by omega)
  refine ⟨eE, gn, by omega, by omega, rfl, by rw [show ((n : Int)).toNat = n from rfl]; exact hn2, v1, v2, hWl, ?_⟩
  refine ⟨?_, ?_, ?_, ?_, ?_, ?_, ?_, ?_, ?_, ?_⟩
  · show 16 * (s.2.set n _).length ≤ W.length
    rw [hWl, List.length_set]; exact hlen
  · show (s.2.set n _).length ≤ 4096
    rw [List.length_set]; exact hle
  · intro d hd h0
    rcases List.mem_or_eq_of_mem_set hd with hd | rfl
    · exact I.fz d hd h0
    · cases h0
  · intro f0 o0 l0 x0 h
    show _ ∧ _ < ((s.2.set n (3, o, 0, 0, ())).length : Int) ∧ (s.2.set n (3, o, 0, 0, ()))[f0.toNat]? = _ ∧ _
    rw [List.length_set]
    by_cases e : f0 = (n : Int)
    · subst e
      rw [setG_self] at h
      cases h
      refine ⟨by omega, by omega, ?_, ho.1, ho.2, by omega⟩
      rw [show ((n : Int)).toNat = n from rfl, List.getElem?_set_self hn1]
    · rw [setG_ne e] at h
      obtain ⟨a1, a2, a3, a4⟩ := I.kd h
      refine ⟨a1, a2, ?_, a4⟩
      rw [List.getElem?_set_ne (by omega)]; exact a3
  · intro a b v ha hb
    by_cases e : a = (n : Int) <;> by_cases e' : b = (n : Int)
    · rw [e, e']
    · subst e
      rw [setG_self] at ha
      rw [setG_ne e'] at hb
      cases ha
      exact absurd hb (hno b)
    · subst e'
      rw [setG_self] at hb
      rw [setG_ne e] at ha
      cases hb
      exact absurd ha (hno a)
    · rw [setG_ne e] at ha
      rw [setG_ne e'] at hb
      exact I.inj ha hb
  · intro f0 o0 l0 x0 k h h0 h1 ht
    by_cases e : f0 = (n : Int)
    · subst e
      have ht : tabP (entA W (16 * (n : Int) + k)) = true := ht
      rw [w2 k h0 h1, tab0] at ht; cases ht
    · rw [setG_ne e] at h
      have ht : tabP (entA W (16 * f0 + k)) = true := ht
      show ∃ m, l0 = m + 1 ∧ setG g n _ (entA W (16 * f0 + k)).2.2.2.1 = _
      rw [old h h0 h1] at ht ⊢
      obtain ⟨m', q1, q2⟩ := I.tab h h0 h1 ht
      exact ⟨m', q1, by rw [setG_ne (hne q2)]; exact q2⟩
  · intro f0 o0 l0 x0 k h h0 h1
    show LeafOk l0 (entA W (16 * f0 + k))
    by_cases e : f0 = (n : Int)
    · subst e
      rw [w2 k h0 h1]; exact leaf0 _
    · rw [setG_ne e] at h
      rw [old h h0 h1]; exact I.leaf h h0 h1
  · intro f0 o0 l0 x0 h hl
    by_cases e : f0 = (n : Int)
    · subst e
      rw [setG_self] at h; cases h
      omega
    · rw [setG_ne e] at h
      obtain ⟨f', p1, p2⟩ := I.par h hl
      refine ⟨f', by rw [setG_ne (hne p1)]; exact p1, ?_⟩
      show entA W _ = _
      rw [old p1 (by omega) (by omega)]; exact p2
  · intro f0 o0 l0 x0 k h h0 h1 hp
    show ldV W (16 * f0 + k) = 0
    by_cases e : f0 = (n : Int)
    · subst e; exact v2 k h0 h1
    · rw [setG_ne e] at h
      have hp : (entA W (16 * f0 + k)).1 = false := hp
      rw [old h h0 h1] at hp
      have := hne h
      rw [v1 _ (by omega)]
      exact I.wf h h0 h1 hp
  · intro n' d hn' h3
    by_cases e : n' = n
    · subst e; exact ⟨_, setG_self _ _ _⟩
    · have h' : (s.2.set n (3, o, 0, 0, ()))[n']? = some d := hn'
      rw [List.getElem?_set_ne (by omega)] at h'
      obtain ⟨v, hv⟩ := I.tb h' h3
      exact ⟨v, by rw [setG_ne (by omega)]; exact hv⟩
end Inv
end Go.Proofs.YtkldededdgpmbaaGreat
namespace Go.Proofs.YtkldededdgpmbaaGreat
set_option linter.unusedSimpArgs false
set_option linter.unusedVariables false
set_option maxRecDepth 100000
open Go.RX D
/-! ### A guest's tables, all of them -/
/-- Roots stand above no digits. -/
def Rt (g : Gh) : Prop := ∀ f o x, g f = some (o, 3, x) → x = 0
theorem Rt.keep {g g' : Gh} (h : Rt g) (k : RootK g g') : Rt g' := fun f o x e => h f o x ((k _ _ _).1 e)
def upx : Nat → Int → Int
  | 0, x => x
  | n + 1, x => upx n x / 16
theorem mem_sub {ws : List Int} {l : Nat} {f z : Int} : z ∈ (List.range 16).flatMap (subU ws l f) ↔ ∃ i : Nat, i < 16 ∧ ∃ m, l = m + 1 ∧ tabP (entA ws (16 * f + (i : Int))) = true ∧ z ∈ underL ws m (entA ws (16 * f + (i : Int))).2.2.2.1 := by
  rw [List.mem_flatMap]
  constructor
  · rintro ⟨i, hi, h⟩
    rw [List.mem_range] at hi
    cases l with
    | zero => cases h
    | succ m =>
      unfold subU at h
      dsimp only at h
      split at h
      · rename_i ht
        exact ⟨i, hi, m, rfl, ht, h⟩
      · cases h
  · rintro ⟨i, hi, m, rfl, ht, h⟩
    refine ⟨i, List.mem_range.2 hi, ?_⟩
    unfold subU
    dsimp only
    rw [if_pos ht]
    exact h
theorem insD_perm (x : Int) : ∀ l : List Int, (insD x l).Perm (x :: l)
  | [] => .refl _
  | y :: l => by
    rw [insD]
    split
    · exact ((insD_perm x l).cons y).trans (.swap _ _ _)
    · exact .refl _
theorem fold_perm : ∀ (l a : List Int), (l.foldl (fun a x => insD x a) a).Perm (l ++ a)
  | [], a => .refl _
  | x :: l, a => by
    rw [List.foldl_cons]
    exact (fold_perm l (insD x a)).trans (((insD_perm x a).append_left l).trans List.perm_middle)
theorem sortI_perm (l : List Int) : (sortI l).Perm l := by
  unfold sortI
  have := fold_perm l []
  rw [List.append_nil] at this
  exact (List.reverse_perm _).trans this
theorem turn_ret (o : Int) (h : 1 ≤ o ∧ o ≤ 16) : ¬ (turnG 5 0 (5, o, 0, 0, ())).2 = 0 := by
  have r1 : rightD 5 o 0 0 = true := by unfold rightD rightP; simp; omega
  show ¬ nextE 5 o 0 0 5 0 = 0
  unfold nextE
  rw [r1, if_neg (by decide), if_neg (by decide), if_neg (by decide)]
  decide
/-- Tables are retired, one behind the other. -/
theorem fold_turn {o : Int} (ho : 1 ≤ o ∧ o ≤ 16) : ∀ (l : List Int) (ds : List DT), (∀ f ∈ l, 0 ≤ f ∧ (ds[f.toNat]? = some (3, o, 0, 0, ()) ∨ ds[f.toNat]? = some (5, o, 0, 0, ()))) →
    (l.foldl (fun ds f => chL ds f (turnG 5 0)) ds).length = ds.length ∧ ∀ n : Nat, ((n : Int) ∈ l → (l.foldl (fun ds f => chL ds f (turnG 5 0)) ds)[n]? = some (5, o, 0, 0, ())) ∧ ((n : Int) ∉ l → (l.foldl (fun ds f => chL ds f (turnG 5 0)) ds)[n]? = ds[n]?)
  | [], ds, _ => ⟨rfl, fun n => ⟨fun h => (by cases h), fun _ => rfl⟩⟩
  | f :: l, ds, h => by
    obtain ⟨hf0, hf⟩ := h f List.mem_cons_self
    have hlt : f.toNat < ds.length := by
      rcases hf with h | h <;> exact (List.getElem?_eq_some_iff.1 h).1
    have hst : (chL ds f (turnG 5 0)).length = ds.length ∧ (chL ds f (turnG 5 0))[f.toNat]? = some (5, o, 0, 0, ()) ∧ ∀ n : Nat, n ≠ f.toNat → (chL ds f (turnG 5 0))[n]? = ds[n]? := by
      rw [chL_in ⟨hf0, by omega⟩, List.getD_eq_getElem?_getD]
      rcases hf with hf | hf
      · rw [hf]
        show ((if (turnG 5 0 (3, o, 0, 0, ())).2 = 0 then ds.set f.toNat (turnG 5 0 (3, o, 0, 0, ())).1 else ds).length = _) ∧ (if (turnG 5 0 (3, o, 0, 0, ())).2 = 0 then ds.set f.toNat (turnG 5 0 (3, o, 0, 0, ())).1 else ds)[f.toNat]? = _ ∧ ∀ n : Nat, n ≠ f.toNat → (if (turnG 5 0 (3, o, 0, 0, ())).2 = 0 then ds.set f.toNat (turnG 5 0 (3, o, 0, 0, ())).1 else ds)[n]? = _
        rw [turn_tab ho, if_pos rfl]
        exact ⟨List.length_set, List.getElem?_set_self hlt, fun n hn => List.getElem?_set_ne (fun e => hn e.symm)⟩
      · rw [hf]
        show ((if (turnG 5 0 (5, o, 0, 0, ())).2 = 0 then ds.set f.toNat (turnG 5 0 (5, o, 0, 0, ())).1 else ds).length = _) ∧ (if (turnG 5 0 (5, o, 0, 0, ())).2 = 0 then ds.set f.toNat (turnG 5 0 (5, o, 0, 0, ())).1 else ds)[f.toNat]? = _ ∧ ∀ n : Nat, n ≠ f.toNat → (if (turnG 5 0 (5, o, 0, 0, ())).2 = 0 then ds.set f.toNat (turnG 5 0 (5, o, 0, 0, ())).1 else ds)[n]? = _
        rw [if_neg (turn_ret o ho)]
        exact ⟨rfl, hf, fun n hn => rfl⟩
    rw [List.foldl_cons]
    obtain ⟨e1, e2, e3⟩ := hst
    obtain ⟨k1, k2⟩ := fold_turn ho l (chL ds f (turnG 5 0)) (fun x hx => by
      obtain ⟨hx0, hx1⟩ := h x (List.mem_cons_of_mem _ hx)
      refine ⟨hx0, ?_⟩
      by_cases e : x.toNat = f.toNat
      · rw [e]; exact .inr e2
      · rw [e3 _ e]; exact hx1)
    refine ⟨k1.trans e1, fun n => ⟨fun hm => ?_, fun hm => ?_⟩⟩
    · by_cases hl : (n : Int) ∈ l
      · exact (k2 n).1 hl
      · rw [(k2 n).2 hl]
        have : (n : Int) = f := (List.mem_cons.1 hm).resolve_right hl
        have e : n = f.toNat := by omega
        rw [e]; exact e2
    · rw [(k2 n).2 (fun h => hm (List.mem_cons_of_mem _ h)), e3 n (fun e => hm (by
        have : (n : Int) = f := by omega
        rw [this]; exact List.mem_cons_self))]
/-- No tables of a guest. -/
def delG (g : Gh) (o : Int) : Gh := fun f => match g f with
  | some v => if v.1 = o then none else some v
  | none => none
theorem delG_some {g : Gh} {o f : Int} {v : Int × Nat × Int} : delG g o f = some v ↔ g f = some v ∧ v.1 ≠ o := by
  unfold delG
  cases hg : g f with
  | none => simp
  | some u =>
    dsimp only
    by_cases e : u.1 = o
    · rw [if_pos e]
      constructor
      · intro h; cases h
      · rintro ⟨h, h2⟩; cases h; exact absurd e h2
    · rw [if_neg e]
      constructor
      · intro h; cases h; exact ⟨rfl, e⟩
      · rintro ⟨h, _⟩; exact h
namespace Inv
variable {g : Gh} {s : WD}
theorem under_in (I : Inv g s) : ∀ (l : Nat) {f o x : Int}, g f = some (o, l, x) → ∀ z ∈ underL s.1 l f, ∃ l' x' n, l' + n = l ∧ g z = some (o, l', x') ∧ upx n x' = x := by
  intro l
  induction l with
  | zero =>
    intro f o x hf z hz
    rw [underL, List.mem_singleton] at hz
    subst hz
    exact ⟨0, x, 0, rfl, hf, rfl⟩
  | succ l ih =>
    intro f o x hf z hz
    rw [underL_eq] at hz
    rcases List.mem_cons.1 hz with rfl | hz
    · exact ⟨l + 1, x, 0, rfl, hf, rfl⟩
    · obtain ⟨i, hi, m, hm, ht, hz2⟩ := mem_sub.1 hz
      have : m = l := by omega
      subst this
      obtain ⟨m', h1, h2⟩ := I.tab hf (by omega) (by omega) ht
      have : m' = m := by omega
      subst this
      obtain ⟨l', x', n, q1, q2, q3⟩ := ih h2 z hz2
      refine ⟨l', x', n + 1, by omega, q2, ?_⟩
      show upx n x' / 16 = x
      rw [q3]; omega
theorem under_up (I : Inv g s) (hR : Rt g) {r o : Int} (hr : g r = some (o, 3, 0)) : ∀ (n : Nat) {l : Nat} {f x : Int}, l + n = 3 → g f = some (o, l, x) → ∀ z ∈ underL s.1 l f, z ∈ underL s.1 3 r
  | 0, l, f, x, hl, hf, z, hz => by
    have : l = 3 := by omega
    subst this
    have : x = 0 := hR _ _ _ hf
    subst this
    rw [I.inj hf hr] at hz
    exact hz
  | n + 1, l, f, x, hl, hf, z, hz => by
    obtain ⟨f', h1, h2⟩ := I.par hf (by omega)
    obtain ⟨b1, b2, _⟩ := I.rng hf
    refine I.under_up hR hr n (l := l + 1) (by omega) h1 z ?_
    rw [underL_eq]
    refine List.mem_cons_of_mem _ (mem_sub.2 ⟨(x % 16).toNat, by omega, l, rfl, ?_⟩)
    have e : (((x % 16).toNat : Nat) : Int) = x % 16 := by omega
    rw [e, h2]
    exact ⟨lead_tab ⟨b1, b2⟩, hz⟩
theorem under_mem (I : Inv g s) (hR : Rt g) {r o : Int} (hr : g r = some (o, 3, 0)) (z : Int) : z ∈ underL s.1 3 r ↔ ∃ l x, g z = some (o, l, x) := by
  constructor
  · intro h
    obtain ⟨l', x', n, _, h2, _⟩ := I.under_in 3 hr z h
    exact ⟨l', x', h2⟩
  · rintro ⟨l, x, h⟩
    have hl := (I.kd h).2.2.2.2.2
    exact I.under_up hR hr (3 - l) (by omega) h z (by rw [underL_eq]; exact List.mem_cons_self)
theorem under_nodup (I : Inv g s) : ∀ (l : Nat) {f o x : Int}, g f = some (o, l, x) → (underL s.1 l f).Nodup := by
  intro l
  induction l with
  | zero =>
    intro f o x hf
    rw [underL]
    exact List.nodup_cons.2 ⟨fun h => (by cases h), List.nodup_nil⟩
  | succ l ih =>
    intro f o x hf
    rw [underL_eq]
    have inS : ∀ {i : Nat} {z : Int}, i < 16 → z ∈ subU s.1 (l + 1) f i → ∃ l' x' n, l' + n = l ∧ g z = some (o, l', x') ∧ upx n x' = 16 * x + (i : Int) := by
      intro i z hi hz
      unfold subU at hz
      dsimp only at hz
      split at hz
      · rename_i ht
        obtain ⟨m, h1, h2⟩ := I.tab hf (by omega) (by omega) ht
        have : m = l := by omega
        subst this
        exact I.under_in m h2 z hz
      · cases hz
    refine List.nodup_cons.2 ⟨fun h => ?_, List.pairwise_flatMap.2 ⟨fun i hi => ?_, ?_⟩⟩
    · obtain ⟨i, hi, hz⟩ := List.mem_flatMap.1 h
      rw [List.mem_range] at hi
      obtain ⟨l', x', n, q1, q2, _⟩ := inS hi hz
      rw [hf] at q2
      simp only [Option.some.injEq, Prod.mk.injEq] at q2
      omega
    · rw [List.mem_range] at hi
      unfold subU
      dsimp only
      split
      · rename_i ht
        obtain ⟨m, h1, h2⟩ := I.tab hf (by omega) (by omega) ht
        have : m = l := by omega
        subst this
        exact ih h2
      · exact List.Pairwise.nil
    · have hp : (List.range 16).Pairwise (fun a b => a < 16 ∧ b < 16 ∧ a ≠ b) := by decide
      refine hp.imp fun {a b} hab y hy z hz e => ?_
      subst e
      obtain ⟨l1, x1, n1, q1, q2, q3⟩ := inS hab.1 hy
      obtain ⟨l2, x2, n2, p1, p2, p3⟩ := inS hab.2.1 hz
      rw [q2] at p2
      simp only [Option.some.injEq, Prod.mk.injEq, true_and] at p2
      obtain ⟨rfl, rfl⟩ := p2
      have : n1 = n2 := by omega
      subst this
      rw [q3] at p3
      exact hab.2.2 (by omega)
theorem under_other {g' : Gh} {s' : WD} (I : Inv g s) {o : Int} (h : Othr o g g' s s') : ∀ (l : Nat) {f o' x : Int}, o' ≠ o → g f = some (o', l, x) → underL s'.1 l f = underL s.1 l f := by
  intro l
  induction l with
  | zero => intro f o' x _ _; rfl
  | succ l ih =>
    intro f o' x ho hf
    rw [underL_eq, underL_eq]
    congr 1
    have key : ∀ i : Nat, i < 16 → subU s'.1 (l + 1) f i = subU s.1 (l + 1) f i := by
      intro i hi
      unfold subU
      dsimp only
      rw [(h ho hf).2 (i : Int) (by omega) (by omega)]
      split
      · rename_i ht
        obtain ⟨m, h1, h2⟩ := I.tab hf (by omega) (by omega) ht
        have : m = l := by omega
        subst this
        exact ih ho h2
      · rfl
    have : ∀ n, n ≤ 16 → (List.range n).flatMap (subU s'.1 (l + 1) f) = (List.range n).flatMap (subU s.1 (l + 1) f) := by
      intro n
      induction n with
      | zero => intro _; rfl
      | succ n ihn =>
        intro hn
        rw [List.range_succ, List.flatMap_append, List.flatMap_append, ihn (by omega)]
        simp only [List.flatMap_cons, List.flatMap_nil, List.append_nil]
        rw [key n (by omega)]
    exact this 16 (Nat.le_refl _)
theorem x_rng (I : Inv g s) (hR : Rt g) : ∀ (n : Nat) {l : Nat} {f o x : Int}, l + n = 3 → g f = some (o, l, x) → 0 ≤ x ∧ x < (match n with | 0 => 1 | 1 => 16 | 2 => 256 | _ => 4096) ∨ 3 < n
  | 0, l, f, o, x, hl, hf => by
    have : l = 3 := by omega
    subst this
    have := hR _ _ _ hf
    subst this
    exact .inl ⟨Int.le_refl _, by decide⟩
  | n + 1, l, f, o, x, hl, hf => by
    obtain ⟨f', h1, h2⟩ := I.par hf (by omega)
    have := I.x_rng hR n (l := l + 1) (by omega) h1
    rcases n with _ | _ | _ | n
    · left; simp only at this ⊢; omega
    · left; simp only at this ⊢; omega
    · left; simp only at this ⊢; omega
    · omega
/-- A page that ends in an entry, below a level. -/
theorem leaf_at (I : Inv g s) {f o x k : Int} {l : Nat} (hf : g f = some (o, l, x)) (hx : 0 ≤ 16 * x + k ∧ 16 * x + k < (match l with | 0 => 65536 | 1 => 4096 | _ => 0)) (hk : 0 ≤ k ∧ k < 16) (ht : tabP (entA s.1 (16 * f + k)) = false) :
    ∃ q, (0 ≤ q ∧ q < 65536) ∧ px (l + 1) q = x ∧ px l q % 16 = k ∧ EndAt g s o q f l := by
  have key : ∀ q, (0 ≤ q ∧ q < 65536) → px l q = 16 * x + k → ∃ q, (0 ≤ q ∧ q < 65536) ∧ px (l + 1) q = x ∧ px l q % 16 = k ∧ EndAt g s o q f l := by
    intro q hq e
    have e1 : px (l + 1) q = x := by
      show px l q / 16 = x
      omega
    have e2 : px l q % 16 = k := by omega
    exact ⟨q, hq, e1, e2, by rw [e1]; exact hf, by rw [e2]; exact ht⟩
  rcases l with _ | _ | l
  · exact key (16 * x + k) hx rfl
  · refine key ((16 * x + k) * 16) ?_ ?_
    · have h1 := hx.1
      have h2 : 16 * x + k < 4096 := hx.2
      omega
    · show (16 * x + k) * 16 / 16 = _; omega
  · have h1 := hx.1
    have h2 : 16 * x + k < 0 := hx.2
    omega
/-- Under a table that is no root there is a page. -/
theorem page_under (I : Inv g s) (hR : Rt g) (hN : NEx g s none) : ∀ (l : Nat) {f o x : Int}, l < 3 → g f = some (o, l, x) →
    ∃ q f' j, (0 ≤ q ∧ q < 65536) ∧ px (l + 1) q = x ∧ EndAt g s o q f' j ∧ (entA s.1 (16 * f' + px j q % 16)).1 = true := by
  intro l
  induction l with
  | zero =>
    intro f o x hl hf
    obtain ⟨k, k0, k1, k2⟩ := hN hf hl (by simp)
    have hx := (I.x_rng hR 3 (l := 0) rfl hf).resolve_right (by omega)
    simp only at hx
    have ht : tabP (entA s.1 (16 * f + k)) = false := by
      cases h : tabP (entA s.1 (16 * f + k)) with
      | false => rfl
      | true =>
        obtain ⟨m, hm, _⟩ := I.tab hf k0 k1 h
        omega
    obtain ⟨q, q1, q2, q3, q4⟩ := I.leaf_at hf (by simp only; omega) ⟨k0, k1⟩ ht
    exact ⟨q, f, 0, q1, q2, q4, by rw [q3]; exact k2⟩
  | succ l ih =>
    intro f o x hl hf
    obtain ⟨k, k0, k1, k2⟩ := hN hf hl (by simp)
    cases h : tabP (entA s.1 (16 * f + k)) with
    | true =>
      obtain ⟨m, hm, h2⟩ := I.tab hf k0 k1 h
      have : m = l := by omega
      subst this
      obtain ⟨q, f', j, q1, q2, q3, q4⟩ := ih (by omega) h2
      refine ⟨q, f', j, q1, ?_, q3, q4⟩
      show px (m + 1) q / 16 = x
      omega
    | false =>
      rcases I.leaf hf k0 k1 k2 h with ⟨h0, _⟩ | ⟨h1, _⟩
      · omega
      · have : l = 0 := by omega
        subst this
        have hx := (I.x_rng hR 2 (l := 1) rfl hf).resolve_right (by omega)
        simp only at hx
        obtain ⟨q, q1, q2, q3, q4⟩ := I.leaf_at (l := 1) hf (by simp only; omega) ⟨k0, k1⟩ h
        exact ⟨q, f, 1, q1, q2, q4, by rw [q3]; exact k2⟩
/-- All tables of a guest are retired. -/
theorem dropped (I : Inv g s) (hR : Rt g) {r o : Int} (hr : g r = some (o, 3, 0)) :
    Inv (delG g o) (dropS s r false) ∧ Rt (delG g o) ∧ (dropS s r false).1 = s.1 ∧ (dropS s r false).2.length = s.2.length ∧
      ∀ n : Nat, ((∃ l x, g (n : Int) = some (o, l, x)) → (dropS s r false).2[n]? = some (5, o, 0, 0, ())) ∧ ((¬ ∃ l x, g (n : Int) = some (o, l, x)) → (dropS s r false).2[n]? = s.2[n]?) := by
  have hff : ¬ (false = true) := by decide
  have hD : dropS s r false = (s.1, (allS2 s r false).foldl (fun ds f => chL ds f (turnG 5 0)) s.2) := if_neg hff
  have hA : allS2 s r false = sortI (underL s.1 3 r) := if_neg hff
  have hm : ∀ z, z ∈ allS2 s r false ↔ ∃ l x, g z = some (o, l, x) := fun z => by
    rw [hA, (sortI_perm _).mem_iff]; exact I.under_mem hR hr z
  have ho := (I.kd hr).2.2.2
  obtain ⟨t1, t2⟩ := fold_turn ⟨ho.1, ho.2.1⟩ (allS2 s r false) s.2 (fun f hf => by
    obtain ⟨l, x, h⟩ := (hm f).1 hf
    obtain ⟨a1, a2, a3, _⟩ := I.kd h
    exact ⟨a1, .inl a3⟩)
  rw [hD]
  generalize hds : (allS2 s r false).foldl (fun ds f => chL ds f (turnG 5 0)) s.2 = ds at t1 t2
  have hin : ∀ n : Nat, (∃ l x, g (n : Int) = some (o, l, x)) → ds[n]? = some (5, o, 0, 0, ()) := fun n h => (t2 n).1 ((hm _).2 h)
  have hout : ∀ n : Nat, (¬ ∃ l x, g (n : Int) = some (o, l, x)) → ds[n]? = s.2[n]? := fun n h => (t2 n).2 (fun hh => h ((hm _).1 hh))
  refine ⟨?_, fun f o' x h => hR f o' x (delG_some.1 h).1, rfl, t1, fun n => ⟨hin n, hout n⟩⟩
  refine ⟨?_, ?_, ?_, ?_, ?_, ?_, ?_, ?_, ?_, ?_⟩
  · show 16 * ds.length ≤ s.1.length
    rw [t1]; exact I.len
  · show ds.length ≤ 4096
    rw [t1]; exact I.le
  · intro d hd h0
    obtain ⟨n, hn⟩ := List.getElem?_of_mem hd
    have hn : ds[n]? = some d := hn
    by_cases h : ∃ l x, g (n : Int) = some (o, l, x)
    · rw [hin n h] at hn; cases hn; cases h0
    · rw [hout n h] at hn
      exact I.fz d (List.mem_of_getElem? hn) h0
  · intro f o' l x h
    obtain ⟨h, hne⟩ := delG_some.1 h
    obtain ⟨a1, a2, a3, a4⟩ := I.kd h
    show _ ∧ f < (ds.length : Int) ∧ ds[f.toNat]? = _ ∧ _
    rw [t1]
    refine ⟨a1, a2, ?_, a4⟩
    rw [hout f.toNat ?_]
    · exact a3
    · rintro ⟨l', x', h'⟩
      rw [show ((f.toNat : Nat) : Int) = f from by omega, h] at h'
      cases h'
      exact hne rfl
  · intro a b v ha hb
    exact I.inj (delG_some.1 ha).1 (delG_some.1 hb).1
  · intro f o' l x k h h0 h1 ht
    obtain ⟨h, hne⟩ := delG_some.1 h
    obtain ⟨m, q1, q2⟩ := I.tab h h0 h1 ht
    exact ⟨m, q1, delG_some.2 ⟨q2, hne⟩⟩
  · intro f o' l x k h h0 h1
    exact I.leaf (delG_some.1 h).1 h0 h1
  · intro f o' l x h hl
    obtain ⟨h, hne⟩ := delG_some.1 h
    obtain ⟨f', p1, p2⟩ := I.par h hl
    exact ⟨f', delG_some.2 ⟨p1, hne⟩, p2⟩
  · intro f o' l x k h h0 h1 hp
    exact I.wf (delG_some.1 h).1 h0 h1 hp
  · intro n d hn h3
    have hn : ds[n]? = some d := hn
    by_cases h : ∃ l x, g (n : Int) = some (o, l, x)
    · rw [hin n h] at hn; cases hn; cases h3
    · rw [hout n h] at hn
      obtain ⟨v, hv⟩ := I.tb hn h3
      refine ⟨v, delG_some.2 ⟨hv, fun e => h ?_⟩⟩
      obtain ⟨a, b, c⟩ := v
      have e : a = o := e
      subst e
      exact ⟨b, c, hv⟩
end Inv
end Go.Proofs.YtkldededdgpmbaaGreat
namespace Go.Proofs.YtkldededdgpmbaaGreat
set_option linter.unusedSimpArgs false
set_option linter.unusedVariables false
set_option maxRecDepth 100000
open Go.RX D
/-! ### Errors change nothing; what can be done is done -/
theorem put_err {s : WD} {o r pg lv : Int} {e : ET} (h : ¬ putE s r pg lv = 0) : putS s o r pg lv e = s := if_neg h
theorem map_err {s : WD} {o r : Int} {gone : Bool} {pg f rt : Int} (h : ¬ mapE s r gone pg f rt = 0) : mapS s o r gone pg f rt = s := by
  unfold mapE at h
  unfold mapS
  cases gone with
  | true => rw [if_pos rfl]
  | false =>
    have hff : ¬ (false = true) := by decide
    rw [if_neg hff] at h ⊢
    by_cases c : rgtE pg f rt = 0
    · rw [if_pos c] at h ⊢
      exact put_err h
    · rw [if_neg c]
theorem lrg_err {s : WD} {o r : Int} {gone : Bool} {pg f rt : Int} (h : ¬ lrgE s r gone pg f rt = 0) : lrgS s o r gone pg f rt = s := by
  unfold lrgE at h
  unfold lrgS
  cases gone with
  | true => rw [if_pos rfl]
  | false =>
    have hff : ¬ (false = true) := by decide
    rw [if_neg hff] at h ⊢
    by_cases c : rgtE pg f rt = 0
    · rw [if_pos c] at h ⊢
      by_cases d : algE pg f = true
      · rw [if_pos d]
      · rw [if_neg d] at h ⊢
        exact put_err h
    · rw [if_neg c]
theorem spl_err {s : WD} {o r pg : Int} (h : ¬ splE s o r pg = 0) : splS s o r pg = s := by
  unfold splE at h
  unfold splS
  by_cases c : (endX s.1 r pg).2.1 = 0
  · rw [if_pos c]
  · rw [if_neg c] at h ⊢
    rw [if_neg h, tkS_err h]
theorem pro_err {s : WD} {o r : Int} {gone : Bool} {pg rt : Int} (h : ¬ proE s o r gone pg rt = 0) : proS s o r gone pg rt = s := by
  unfold proE at h
  unfold proS
  cases gone with
  | true => rw [if_pos rfl]
  | false =>
    have hff : ¬ (false = true) := by decide
    rw [if_neg hff] at h ⊢
    by_cases c : rgtE pg 0 rt = 0
    · rw [if_pos c] at h ⊢
      by_cases d : (endP s.1 r pg).1 = true
      · rw [if_pos d] at h ⊢
        by_cases e : ((endP s.1 r pg).2.2.1 && (endP s.1 r pg).2.1 == rt) = true
        · rw [if_pos e]
        · rw [if_neg e] at h ⊢
          rw [if_neg h, spl_err h]
      · rw [if_neg d]
    · rw [if_neg c]
theorem unm_err {s : WD} {o r : Int} {gone : Bool} {pg : Int} (h : ¬ unmE s o r gone pg = 0) : unmS s o r gone pg = s := by
  unfold unmE at h
  unfold unmS
  by_cases c : (qryV s r gone pg).2.2.1 = 0
  · rw [if_pos c] at h ⊢
    rw [if_neg h, spl_err h]
  · rw [if_neg c]
theorem unm_gone (s : WD) (o r pg : Int) : unmE s o r true pg = 6 ∧ unmS s o r true pg = s := by
  have : unmE s o r true pg = 6 := rfl
  exact ⟨this, unm_err (by rw [this]; decide)⟩
theorem unmF_err {s : WD} {o r : Int} {gone : Bool} {pg : Int} (h : ¬ unmE s o r gone pg = 0) : unmF s o r gone pg = 0 := if_neg h
theorem qry_rng {s : WD} {r pg : Int} {gone : Bool} (h : (qryV s r gone pg).2.2.1 = 0) : gone = false ∧ 0 ≤ pg ∧ pg < 65536 := by
  unfold qryV at h
  cases gone with
  | true => rw [if_pos rfl] at h; exact absurd h (by decide)
  | false =>
    rw [if_neg (by decide)] at h
    by_cases c : pg < 0 ∨ pg ≥ 65536
    · rw [if_pos c] at h; exact absurd h (by decide)
    · exact ⟨rfl, by omega, by omega⟩
theorem unm_rng {s : WD} {o r pg : Int} {gone : Bool} (h : unmE s o r gone pg = 0) : gone = false ∧ 0 ≤ pg ∧ pg < 65536 := by
  unfold unmE at h
  by_cases c : (qryV s r gone pg).2.2.1 = 0
  · exact qry_rng c
  · rw [if_neg c] at h; exact absurd h c
namespace Inv
variable {g : Gh} {s : WD}
/-- Each call, whatever comes of it. -/
theorem mapC (I : Inv g s) {o r : Int} (hr : g r = some (o, 3, 0)) (p f rt : Int) : ∃ g', Chg (sameP o 0 p) o g g' s (mapS s o r false p f rt) ∧ (NEx g s none → NEx g' (mapS s o r false p f rt) none) ∧ cntL s.2 0 ≤ cntL (mapS s o r false p f rt).2 0 + 3 := by
  by_cases h : mapE s r false p f rt = 0
  · obtain ⟨_, g', C, _, _, _, _, ⟨f0, j, he, hc⟩, hN⟩ := I.map hr h
    have := (I.kd he.1).2.2.2.2.2
    exact ⟨g', C, hN, by omega⟩
  · rw [map_err h]
    exact ⟨g, .refl I _ _, fun h => h, by omega⟩
theorem lrgC (I : Inv g s) {o r : Int} (hr : g r = some (o, 3, 0)) (p f rt : Int) : ∃ g', Chg (sameP o 1 p) o g g' s (lrgS s o r false p f rt) ∧ (NEx g s none → NEx g' (lrgS s o r false p f rt) none) ∧ cntL s.2 0 ≤ cntL (lrgS s o r false p f rt).2 0 + 3 := by
  by_cases h : lrgE s r false p f rt = 0
  · obtain ⟨_, _, g', C, _, _, ⟨f0, j, _, he, _, hc⟩, hN⟩ := I.large hr h
    have := (I.kd he.1).2.2.2.2.2
    exact ⟨g', C, hN, by omega⟩
  · rw [lrg_err h]
    exact ⟨g, .refl I _ _, fun h => h, by omega⟩
theorem unmC (I : Inv g s) {o r : Int} (hr : g r = some (o, 3, 0)) (p : Int) : ∃ g', Chg (sameP o 0 p) o g g' s (unmS s o r false p) ∧ (NEx g s none → NEx g' (unmS s o r false p) none) ∧ cntL s.2 0 ≤ cntL (unmS s o r false p).2 0 + 3 := by
  by_cases h : unmE s o r false p = 0
  · obtain ⟨g', C, _, _, ⟨f0, j, hj, he, _, hc⟩, hN⟩ := I.unmap hr (unm_rng h).2 h
    exact ⟨g', C, hN, by omega⟩
  · rw [unm_err h]
    exact ⟨g, .refl I _ _, fun h => h, by omega⟩
theorem proC (I : Inv g s) {o r : Int} (hr : g r = some (o, 3, 0)) (p rt : Int) : ∃ g', Chg (sameP o 0 p) o g g' s (proS s o r false p rt) ∧ cntL s.2 0 ≤ cntL (proS s o r false p rt).2 0 + 3 := by
  by_cases h : proE s o r false p rt = 0
  · obtain ⟨_, g', C, _, _, hc⟩ := I.protect hr h
    exact ⟨g', C, by omega⟩
  · rw [pro_err h]
    exact ⟨g, .refl I _ _, by omega⟩
/-- What can be mapped is. -/
theorem map_can (I : Inv g s) {o r p f rt : Int} (hr : g r = some (o, 3, 0)) (hp : 0 ≤ p ∧ p < 65536) (hf : 0 ≤ f ∧ f < 4096) (ht : 1 ≤ rt ∧ rt ≤ 7) {f0 : Int} {j : Nat} (he : EndAt g s o p f0 j) (hz : (entA s.1 (16 * f0 + px j p % 16)).1 = false) (hc : j ≤ cntL s.2 0) : mapE s r false p f rt = 0 := by
  obtain ⟨e1, e2⟩ := I.endX_of hr hp he
  have hR : rgtE p f rt = 0 := by unfold rgtE; rw [if_neg (by omega), if_neg (by omega)]
  unfold mapE
  rw [if_neg (by decide), if_pos hR]
  unfold putE
  rw [e1, e2, hz, if_neg ?_, if_neg ?_]
  · show ¬ (cntL s.2 0 : Int) < (j : Int) - 0
    omega
  · show ¬ (false || decide ((j : Int) < 0)) = true
    simp
theorem lrg_can (I : Inv g s) {o r p f rt : Int} (hr : g r = some (o, 3, 0)) (hp : 0 ≤ p ∧ p < 65536) (hf : 0 ≤ f ∧ f < 4096) (ht : 1 ≤ rt ∧ rt ≤ 7) (h16 : p % 16 = 0 ∧ f % 16 = 0) {f0 : Int} {j : Nat} (he : EndAt g s o p f0 j) (hj : 1 ≤ j) (hz : (entA s.1 (16 * f0 + px j p % 16)).1 = false) (hc : j ≤ cntL s.2 0 + 1) : lrgE s r false p f rt = 0 := by
  obtain ⟨e1, e2⟩ := I.endX_of hr hp he
  have hR : rgtE p f rt = 0 := by unfold rgtE; rw [if_neg (by omega), if_neg (by omega)]
  have hA : ¬ algE p f = true := by unfold algE; simp; omega
  unfold lrgE
  rw [if_neg (by decide), if_pos hR, if_neg hA]
  unfold putE
  rw [e1, e2, hz, if_neg ?_, if_neg ?_]
  · show ¬ (cntL s.2 0 : Int) < (j : Int) - 1
    omega
  · show ¬ (false || decide ((j : Int) < 1)) = true
    simp; omega
theorem tk_can (I : Inv g s) {o : Int} (ho : 1 ≤ o ∧ o ≤ 16) (hc : 0 < cntL s.2 0) : tkE s o = 0 := by
  obtain ⟨n, _, _, _, e, _⟩ := take_free hc I.fz ho
  exact e
theorem spl_can (I : Inv g s) {o r p : Int} (hr : g r = some (o, 3, 0)) (hp : 0 ≤ p ∧ p < 65536) {f0 : Int} {j : Nat} (he : EndAt g s o p f0 j) (hc : 0 < cntL s.2 0 ∨ j = 0) : splE s o r p = 0 := by
  obtain ⟨e1, e2⟩ := I.endX_of hr hp he
  have ho := (I.kd hr).2.2.2
  unfold splE
  rw [e1]
  by_cases hj : j = 0
  · subst hj; rw [if_pos (by rfl)]
  · rw [if_neg (by show ¬ ((j : Int) = 0); omega)]
    exact I.tk_can ⟨ho.1, ho.2.1⟩ (hc.resolve_right hj)
theorem unm_can (I : Inv g s) {o r p : Int} (hr : g r = some (o, 3, 0)) (hp : 0 ≤ p ∧ p < 65536) {f0 : Int} {j : Nat} (he : EndAt g s o p f0 j) (hpr : (entA s.1 (16 * f0 + px j p % 16)).1 = true) (hc : 0 < cntL s.2 0 ∨ j = 0) : unmE s o r false p = 0 := by
  unfold unmE
  rw [I.qry_of hr hp he]
  unfold resE
  rw [if_pos hpr, if_pos rfl]
  exact I.spl_can hr hp he hc
theorem pro_can (I : Inv g s) {o r p rt : Int} (hr : g r = some (o, 3, 0)) (hp : 0 ≤ p ∧ p < 65536) (ht : 1 ≤ rt ∧ rt ≤ 7) {f0 : Int} {j : Nat} (he : EndAt g s o p f0 j) (hpr : (entA s.1 (16 * f0 + px j p % 16)).1 = true) (hc : 0 < cntL s.2 0 ∨ j = 0) : proE s o r false p rt = 0 := by
  have hR : rgtE p 0 rt = 0 := by unfold rgtE; rw [if_neg (by omega), if_neg (by omega)]
  unfold proE
  rw [if_neg (by decide), if_pos hR, (I.endX_of hr hp he).2, if_pos hpr]
  split
  · rfl
  · exact I.spl_can hr hp he hc
/-- A root without entries. -/
theorem end_root (I : Inv g s) {o r p : Int} (hr : g r = some (o, 3, 0)) (hp : 0 ≤ p ∧ p < 65536) (hz : ∀ k, 0 ≤ k → k < 16 → ldV s.1 (16 * r + k) = 0) : EndAt g s o p r 3 ∧ (entA s.1 (16 * r + px 3 p % 16)).1 = false := by
  have hi := px_i p 3
  have e := ent0 (hz _ hi.1 hi.2)
  refine ⟨⟨by rw [px4 hp]; exact hr, by rw [e]; exact tab0⟩, by rw [e]; rfl⟩
/-- Pages side by side end in the same table. -/
theorem end_side (I : Inv g s) {o p q f : Int} (he : EndAt g s o p f 0) (hq : px 1 q = px 1 p) : EndAt g s o q f 0 := by
  refine ⟨by rw [hq]; exact he.1, ?_⟩
  have hi := px_i q 0
  cases h : tabP (entA s.1 (16 * f + px 0 q % 16)) with
  | false => rfl
  | true =>
    obtain ⟨m, hm, _⟩ := I.tab he.1 hi.1 hi.2 h
    omega
/-- One page alone has four tables. -/
theorem one_page (I : Inv g s) (hR : Rt g) {r o p : Int} (hr : g r = some (o, 3, 0)) (hN : NEx g s none) (hp : 0 ≤ p ∧ p < 65536) {f0 : Int} (E : EndAt g s o p f0 0) (h1 : ∀ q, 0 ≤ q ∧ q < 65536 → (qryV s r false q).2.2.1 = 0 → q = p) : (underL s.1 3 r).length = 4 := by
  obtain ⟨F, hF, U, _⟩ := I.way4 hr hp E
  have h3 : F 3 = r := by
    have := U.gh 3 (by omega) (by omega)
    refine I.inj this ?_
    rw [hr]
    show some (o, 3, 0) = some (o, 3, px 4 p)
    rw [px4 hp]
  have nd : [F 0, F 1, F 2, F 3].Nodup := by
    have n01 := U.ne (a := 0) (b := 1) (by omega) (by omega) (by omega) (by omega) (by omega)
    have n02 := U.ne (a := 0) (b := 2) (by omega) (by omega) (by omega) (by omega) (by omega)
    have n03 := U.ne (a := 0) (b := 3) (by omega) (by omega) (by omega) (by omega) (by omega)
    have n12 := U.ne (a := 1) (b := 2) (by omega) (by omega) (by omega) (by omega) (by omega)
    have n13 := U.ne (a := 1) (b := 3) (by omega) (by omega) (by omega) (by omega) (by omega)
    have n23 := U.ne (a := 2) (b := 3) (by omega) (by omega) (by omega) (by omega) (by omega)
    simp [n01, n02, n03, n12, n13, n23]
  have key : ∀ z, z ∈ underL s.1 3 r ↔ z ∈ [F 0, F 1, F 2, F 3] := by
    intro z
    rw [I.under_mem hR hr]
    constructor
    · rintro ⟨l, x, hz⟩
      by_cases hl : l = 3
      · subst hl
        have : x = 0 := hR _ _ _ hz
        subst this
        rw [I.inj hz hr, ← h3]
        simp
      · have hl3 := (I.kd hz).2.2.2.2.2
        obtain ⟨q, f', j, q1, q2, q3, q4⟩ := I.page_under hR hN l (by omega) hz
        have : q = p := h1 q q1 (by
          rw [I.qry_of hr q1 q3]
          unfold resE
          rw [if_pos q4])
        subst this
        have hg := U.gh l (by omega) hl3
        rw [q2] at hg
        rw [I.inj hz hg]
        rcases l with _ | _ | _ | l <;> simp
        omega
    · intro hz
      simp only [List.mem_cons, List.not_mem_nil, or_false] at hz
      rcases hz with rfl | rfl | rfl | rfl
      · exact ⟨_, _, U.gh 0 (by omega) (by omega)⟩
      · exact ⟨_, _, U.gh 1 (by omega) (by omega)⟩
      · exact ⟨_, _, U.gh 2 (by omega) (by omega)⟩
      · exact ⟨_, _, U.gh 3 (by omega) (by omega)⟩
  have := ((List.perm_ext_iff_of_nodup (I.under_nodup 3 hr) nd).2 key).length_eq
  exact this
end Inv
end Go.Proofs.YtkldededdgpmbaaGreat
namespace Go.Proofs.YtkldededdgpmbaaGreat
set_option linter.unusedSimpArgs false
set_option linter.unusedVariables false
set_option maxRecDepth 100000
open Go.RX D
/-! ### A walker finds what Query tells -/
theorem andNot_zero (r : Int) : andNotI .i64 0 r = 0 := by
  have h : ∀ x : BitVec 64, (BitVec.ofInt 64 0) &&& x = 0#64 := fun x => by
    rw [show BitVec.ofInt 64 0 = 0#64 from rfl, BitVec.zero_and]
  show IntKind.i64.wrap (((BitVec.ofInt 64 0) &&& ~~~(BitVec.ofInt 64 r)).toNat : Int) = 0
  rw [h]; rfl
theorem ent_ok {ws : List Int} {a : Int} (h : (entA ws a).1 = true) : okV (B (ldV ws a)).toNat = true := by
  unfold entA entV prP at h
  cases hk : okV (B (ldV ws a)).toNat with
  | true => rfl
  | false => rw [hk] at h; simp at h
theorem step_go {ws : List Int} {p t f : Int} {l : Nat} {fd : FT} (hi : inM ws (atI f p (l : Int)) = true) (hok : okV (B (ldV ws (atI f p (l : Int)))).toNat = true) :
    stepS ws p t (f, (l : Int), fd) = tookS f p t (l : Int) fd (entA ws (atI f p (l : Int))).1 (entA ws (atI f p (l : Int))).2.1 (entA ws (atI f p (l : Int))).2.2.1 (entA ws (atI f p (l : Int))).2.2.2.1 := by
  unfold stepS
  dsimp only
  rw [if_neg (by omega), hok, if_neg ?_]
  · rfl
  · unfold ldE
    rw [if_pos hi]
    decide
namespace Inv
variable {g : Gh} {s : WD}
theorem walk_to (I : Inv g s) {o r p t : Int} (hr : g r = some (o, 3, 0)) (hp : 0 ≤ p ∧ p < 65536) : ∀ (n : Nat) {j : Nat} {f : Int}, j + n = 3 → g f = some (o, j, px (j + 1) p) → itS s.1 r p t n = (f, (j : Int), (0, 0, 0, 0, ()))
  | 0, j, f, hj, hf => by
    have : j = 3 := by omega
    subst this
    rw [px4 hp] at hf
    rw [I.inj hf hr]; rfl
  | n + 1, j, f, hj, hf => by
    obtain ⟨f', h1, h2⟩ := I.par hf (by omega)
    have h1' : g f' = some (o, j + 1, px (j + 1 + 1) p) := h1
    obtain ⟨b1, b2, b3⟩ := I.rng h1
    obtain ⟨c1, c2, _⟩ := I.rng hf
    have ih := I.walk_to (t := t) hr hp n (j := j + 1) (by omega) h1'
    have ea := at_px ⟨b1, b2⟩ hp (l := j + 1) (by omega)
    have hi2 := px_i p (j + 1)
    rw [itS, ih, step_go (by rw [ea]; exact inM_rng (by omega) (by omega)) (by rw [ea]; exact ent_ok (by rw [h2]; rfl)), ea, h2]
    unfold tookS leadP
    dsimp only
    rw [if_neg (by decide), if_pos ?_]
    · congr 2
      rw [subI_i64 (by omega) (by omega)]; omega
    · have : tableE true 0 false f = true := lead_tab ⟨c1, c2⟩
      rw [this]
      simp
      try omega
/-- What a walker that wants nothing finds. -/
theorem wall_of (I : Inv g s) {o r p : Int} (hr : g r = some (o, 3, 0)) (hp : 0 ≤ p ∧ p < 65536) {f : Int} {j : Nat} (he : EndAt g s o p f j) :
    ((allS s.1 r p 0).1 = (resE p j (entA s.1 (16 * f + px j p % 16))).1 ∧ (allS s.1 r p 0).2.1 = (resE p j (entA s.1 (16 * f + px j p % 16))).2.1 ∧ ((allS s.1 r p 0).2.2.2.1 = 0 ↔ (resE p j (entA s.1 (16 * f + px j p % 16))).2.2.1 = 0)) := by
  have hk := I.kd he.1
  have hj := hk.2.2.2.2.2
  obtain ⟨b1, b2, b3⟩ := I.rng he.1
  obtain ⟨r1, r2, r3⟩ := I.rng hr
  have hi := px_i p j
  have ea := at_px ⟨b1, b2⟩ hp hj
  have ht := he.2
  have hw := I.wf he.1 hi.1 hi.2
  have hlf := I.leaf he.1 hi.1 hi.2
  have her := entA_right s.1 (16 * f + px j p % 16)
  have hbad : badW r p 0 = false := by
    unfold badW
    have e3 : atI r p 3 = 16 * r + px 3 p % 16 := at_px ⟨r1, r2⟩ hp (l := 3) (by omega)
    have hi3 := px_i p 3
    rw [e3, decide_eq_false (by omega), decide_eq_false (by omega), decide_eq_false (by omega)]; rfl
  have hS : allS s.1 r p 0 = (itS s.1 r p 0 4).2.2 := if_neg (by rw [hbad]; decide)
  have hto := I.walk_to (t := 0) hr hp (3 - j) (by omega) he.1
  have hin : inM s.1 (atI f p (j : Int)) = true := by rw [ea]; exact inM_rng (by omega) (by omega)
  have hok : okV (B (ldV s.1 (atI f p (j : Int)))).toNat = true := by
    rw [ea]
    cases hb : (entA s.1 (16 * f + px j p % 16)).1 with
    | true => exact ent_ok hb
    | false => rw [hw hb]; decide +kernel
  have hstep : itS s.1 r p 0 (3 - j + 1) = tookS f p 0 (j : Int) (0, 0, 0, 0, ()) (entA s.1 (16 * f + px j p % 16)).1 (entA s.1 (16 * f + px j p % 16)).2.1 (entA s.1 (16 * f + px j p % 16)).2.2.1 (entA s.1 (16 * f + px j p % 16)).2.2.2.1 := by
    rw [itS, hto, step_go hin hok, ea]
  generalize entA s.1 (16 * f + px j p % 16) = e at *
  obtain ⟨ep, er, el, ef, eu⟩ := e
  dsimp only at *
  have hdone : ∀ x : FT, tookS f p 0 (j : Int) (0, 0, 0, 0, ()) ep er el ef = (f, -1, x) → allS s.1 r p 0 = x := fun x hx => by
    rw [hS]
    have h1 : (itS s.1 r p 0 (3 - j + 1)).2.1 = -1 := by rw [hstep, hx]
    have := it_stop h1 j
    rw [show 3 - j + 1 + j = 4 by omega] at this
    rw [this, hstep, hx]
  cases ep with
  | false =>
    rw [hdone (endF (j : Int) 4) (by unfold tookS; rfl)]
    unfold resE endF
    simp
  | true =>
    have ht' : tableE true er el ef = false := ht
    obtain ⟨k1, k2, k3, k4, k5⟩ := right_t.1 her
    rcases hlf rfl ht with ⟨rfl, hl⟩ | ⟨rfl, hl, hal⟩
    · subst hl
      have hr0 : er > 0 := by
        refine Classical.byContradiction fun hc => ?_
        have : er = 0 := by omega
        subst this
        have := lead_tab ⟨k3, k4⟩
        unfold tabP leadP at this
        dsimp only at this
        rw [this] at ht'
        cases ht'
      have ha : allowsE true er false ef 0 = true := by
        unfold allowsE
        rw [her]
        have e0 : andNotI .i64 0 er = 0 := andNot_zero er
        rw [e0]
        simp; omega
      rw [hdone (inF 0 0 ef true er false ef) (by
        unfold tookS
        rw [if_neg (by decide), ht', if_neg (by decide), if_neg (by decide), if_pos (by simp; omega)]; rfl)]
      unfold resE inF
      rw [if_neg (by omega), if_pos ha, if_pos rfl, if_neg (by decide)]
      simp
    · have hal : ef % 16 = 0 := hal
      subst hl
      have hr0 : er > 0 := by rcases k5 with h | h; exact h; cases h
      have ha : allowsE true er true ef 0 = true := by
        unfold allowsE
        rw [her]
        have e0 : andNotI .i64 0 er = 0 := andNot_zero er
        rw [e0]
        simp; omega
      have e1 : addI .i64 ef (remI p 16) = ef + p % 16 := by
        have : remI p 16 = p % 16 := by unfold remI; exact Int.tmod_eq_emod_of_nonneg hp.1
        rw [this, addI_i64 (by omega) (by omega)]
      rw [hdone (inF 1 0 (ef + p % 16) true er true ef) (by
        unfold tookS
        rw [if_neg (by decide), ht', if_neg (by decide), if_pos (by decide), e1]; rfl)]
      unfold resE inF
      rw [if_neg (by omega), if_pos ha, if_pos rfl, if_pos rfl]
      simp
end Inv
end Go.Proofs.YtkldededdgpmbaaGreat
namespace Go.Proofs.YtkldededdgpmbaaGreat
set_option linter.unusedSimpArgs false
set_option linter.unusedVariables false
set_option maxRecDepth 100000
open Go.RX D
/-! ### Large entries are counted; tables are counted -/
def lgV (v : Int) : Bool := (entV v).2.2.1
def nlW (ws : List Int) : Nat := ws.countP lgV
theorem lg0 : lgV 0 = false := by unfold lgV; rw [entV0]; rfl
theorem lg_pk (p : Bool) (r f : Int) : lgV (pkW p r false f) = false := by
  unfold lgV
  by_cases h : rightE p r false f = true
  · rw [entV_pk h]
  · unfold pkW
    rw [if_neg h]; exact lg0
theorem nl_set {ws : List Int} {a v : Int} (h : inM ws a = true) : nlW (stL ws a v) + (if lgV (ldV ws a) = true then 1 else 0) = nlW ws + (if lgV v = true then 1 else 0) := by
  have hi := inM_iff.1 h
  have hlt : a.toNat < ws.length := by omega
  have e1 : ws = ws.take a.toNat ++ ws[a.toNat] :: ws.drop (a.toNat + 1) := by
    have := (List.take_append_drop a.toNat ws).symm
    rw [List.drop_eq_getElem_cons hlt] at this
    exact this
  have e2 : stL ws a v = ws.take a.toNat ++ v :: ws.drop (a.toNat + 1) := by
    unfold stL
    rw [if_pos h, List.set_eq_take_append_cons_drop, if_pos hlt]
  have e3 : ldV ws a = ws[a.toNat] := by
    unfold ldV
    rw [if_pos h, List.getD_eq_getElem?_getD, List.getElem?_eq_getElem hlt]; rfl
  unfold nlW
  rw [e2, e3]
  conv => rhs; rw [e1]
  simp only [List.countP_append, List.countP_cons]
  omega
theorem nl_le {ws : List Int} {a v : Int} (hv : lgV v = false) : nlW (stL ws a v) ≤ nlW ws := by
  by_cases h : inM ws a = true
  · have := nl_set (v := v) h
    have h2 : (if lgV v = true then 1 else 0) = 0 := by rw [hv]; rfl
    omega
  · unfold stL; rw [if_neg h]; exact Nat.le_refl _
theorem nl_one {ws : List Int} {a v : Int} : nlW (stL ws a v) ≤ nlW ws + 1 := by
  by_cases h : inM ws a = true
  · have := nl_set (v := v) h
    split at this <;> split at this <;> omega
  · unfold stL; rw [if_neg h]; omega
theorem nl_fill {ws : List Int} {f : Int} {G : Int → Int} (hG : ∀ i, lgV (G i) = false) : ∀ n, nlW (fillL ws f G n) ≤ nlW ws
  | 0 => Nat.le_refl _
  | n + 1 => Nat.le_trans (nl_le (hG _)) (nl_fill hG n)
theorem nl_tk {s : WD} {o : Int} {G : Int → Int} (hG : ∀ i, lgV (G i) = false) : nlW (tkS s o G).1 ≤ nlW s.1 := by
  unfold tkS
  split
  · exact nl_fill hG _
  · exact Nat.le_refl _
theorem nl_lead {s : WD} {i f : Int} : nlW (layS s i (leadP f)).1 ≤ nlW s.1 := nl_le (lg_pk _ _ _)
theorem nl_down (o pg : Int) : ∀ (n : Nat) (x : WD × PT), nlW (downS o pg n x).1.1 ≤ nlW x.1.1
  | 0, x => Nat.le_refl _
  | n + 1, x => Nat.le_trans (nl_down o pg n _) (Nat.le_trans nl_lead (nl_tk fun _ => lg0))
theorem nl_put {s : WD} {o r pg lv : Int} {e : ET} : nlW (putS s o r pg lv e).1 ≤ nlW s.1 + (if e.2.2.1 = true then 1 else 0) := by
  unfold putS
  split
  · obtain ⟨e1, e2, e3, e4, e5⟩ := e
    cases e3 with
    | false => exact Nat.le_trans (nl_le (lg_pk _ _ _)) (Nat.le_trans (nl_down _ _ _ _) (Nat.le_add_right _ _))
    | true => exact Nat.le_trans nl_one (Nat.add_le_add_right (nl_down _ _ _ _) 1)
  · omega
theorem nl_map {s : WD} {o r pg f rt : Int} {gone : Bool} : nlW (mapS s o r gone pg f rt).1 ≤ nlW s.1 := by
  unfold mapS
  split
  · exact Nat.le_refl _
  · split
    · exact nl_put
    · exact Nat.le_refl _
theorem nl_lrg {s : WD} {o r pg f rt : Int} {gone : Bool} : nlW (lrgS s o r gone pg f rt).1 ≤ nlW s.1 + 1 := by
  unfold lrgS
  split
  · omega
  · split
    · split
      · omega
      · exact nl_put
    · omega
theorem nl_thin : ∀ (l : List PT) (s : WD), nlW (thinS l s).1 ≤ nlW s.1
  | [], s => Nat.le_refl _
  | [x], s => Nat.le_refl _
  | x :: y :: l, s => by
    rw [thinS]
    split
    · exact Nat.le_trans (nl_thin (y :: l) _) (nl_le lg0)
    · exact Nat.le_refl _
/-- Frames that are of a kind are as many as there are numbers of such. -/
def idxL (ds : List DT) (v : Int) : List Nat := (List.range ds.length).filter fun i => match ds[i]? with | some d => d.1 == v | none => false
theorem cnt_idx (ds : List DT) (v : Int) : cntL ds v = (idxL ds v).length := by
  unfold idxL
  induction ds with
  | nil => rfl
  | cons d ds ih =>
    rw [List.length_cons, List.range_succ_eq_map, List.filter_cons, List.filter_map, cntL, List.countP_cons]
    have h : ((fun i => match (d :: ds)[i]? with | some d => d.1 == v | none => false) ∘ Nat.succ) = fun i => match ds[i]? with | some d => d.1 == v | none => false := by
      funext i
      simp
    rw [h]
    unfold cntL at ih
    rw [ih]
    simp only [List.getElem?_cons_zero]
    by_cases hd : (d.1 == v) = true
    · rw [if_pos hd, if_pos hd, List.length_cons, List.length_map]
    · rw [if_neg hd, if_neg hd, List.length_map]; rfl
theorem idx_nodup (ds : List DT) (v : Int) : (idxL ds v).Nodup := List.Pairwise.filter _ List.nodup_range
theorem idx_mem {ds : List DT} {v : Int} {i : Nat} : i ∈ idxL ds v ↔ ∃ d, ds[i]? = some d ∧ d.1 = v := by
  unfold idxL
  rw [List.mem_filter, List.mem_range]
  constructor
  · rintro ⟨_, h⟩
    split at h
    · rename_i d hd
      exact ⟨d, hd, by simpa using h⟩
    · cases h
  · rintro ⟨d, hd, h⟩
    refine ⟨(List.getElem?_eq_some_iff.1 hd).1, ?_⟩
    rw [hd]; simpa using h
namespace Inv
variable {g : Gh} {s : WD}
/-- A split takes a large entry away. -/
theorem nl_split (I : Inv g s) {o r p f : Int} {j : Nat} (hr : g r = some (o, 3, 0)) (hp : 0 ≤ p ∧ p < 65536) (he : EndAt g s o p f j) (hpr : (entA s.1 (16 * f + px j p % 16)).1 = true) (h0 : splE s o r p = 0) :
    nlW (splS s o r p).1 + j ≤ nlW s.1 ∧ j ≤ nlW s.1 ∧ j ≤ 1 := by
  obtain ⟨eX, eP⟩ := I.endX_of hr hp he
  have hi := px_i p j
  have hfr := I.rng he.1
  rcases I.leaf he.1 hi.1 hi.2 hpr he.2 with ⟨rfl, _⟩ | ⟨rfl, hlg, _⟩
  · have hS : splS s o r p = s := by unfold splS; rw [eX]; exact if_pos rfl
    rw [hS]; omega
  · have hE : splE s o r p = tkE s o := by unfold splE; rw [eX]; exact if_neg (by show ¬ ((1 : Int) = 0); decide)
    rw [hE] at h0
    have hS : splS s o r p = layS (tkS s o (splG (entA s.1 (16 * f + px 1 p % 16)))) (16 * f + px 1 p % 16) (leadP (tkF s o)) := by
      unfold splS; rw [eX, eP]
      rw [if_neg (by show ¬ ((1 : Int) = 0); decide), if_pos h0]
    rw [hS]
    have hin : inM s.1 (16 * f + px 1 p % 16) = true := inM_rng (by omega) (by omega)
    have hone : ∀ ws : List Int, inM ws (16 * f + px 1 p % 16) = true → lgV (ldV ws (16 * f + px 1 p % 16)) = true → nlW (stL ws (16 * f + px 1 p % 16) (pkP (leadP (tkF s o)))) + 1 = nlW ws := fun ws h1 h2 => by
      have := nl_set (v := pkP (leadP (tkF s o))) h1
      have h3 : lgV (pkP (leadP (tkF s o))) = false := lg_pk _ _ _
      rw [h2, h3, if_pos rfl, if_neg (by decide)] at this
      omega
    have hlg' : lgV (ldV s.1 (16 * f + px 1 p % 16)) = true := hlg
    have h1 : 1 ≤ nlW s.1 := by have := hone s.1 hin hlg'; omega
    have hk := I.kd he.1
    have hc : 0 < cntL s.2 0 := by
      rcases Nat.eq_zero_or_pos (cntL s.2 0) with e | e
      · exact absurd h0 (tkE_none e (by omega))
      · exact e
    obtain ⟨n, hn1, hn2, e1, e2, e3⟩ := take_free hc I.fz ⟨hk.2.2.2.1, hk.2.2.2.2.1⟩
    have hfn : f ≠ (n : Int) := fun e => by
      have := hk.2.2.1
      rw [e, show ((n : Int)).toNat = n from rfl, hn2] at this
      cases this
    have hlen := I.len
    have hT : (tkS s o (splG (entA s.1 (16 * f + px 1 p % 16)))).1 = fillL s.1 (n : Int) (splG (entA s.1 (16 * f + px 1 p % 16))) 16 := by
      unfold tkS
      rw [if_pos h0, show tkF s o = (n : Int) from e1]
    have hle : nlW (tkS s o (splG (entA s.1 (16 * f + px 1 p % 16)))).1 ≤ nlW s.1 := nl_tk fun _ => lg_pk _ _ _
    have := hone (tkS s o (splG (entA s.1 (16 * f + px 1 p % 16)))).1 (by
      rw [hT]
      exact inM_rng (by omega) (by rw [fillL_len]; omega)) (by
      rw [hT, ld_fill (by omega) (by omega) 16 (Nat.le_refl _), if_neg (by omega)]
      exact hlg')
    refine ⟨?_, h1, Nat.le_refl _⟩
    show nlW (stL _ _ _) + 1 ≤ _
    omega
theorem nl_unm (I : Inv g s) {o r p f : Int} {j : Nat} (hr : g r = some (o, 3, 0)) (hp : 0 ≤ p ∧ p < 65536) (he : EndAt g s o p f j) (hpr : (entA s.1 (16 * f + px j p % 16)).1 = true) (h0 : unmE s o r false p = 0) :
    nlW (unmS s o r false p).1 + j ≤ nlW s.1 := by
  have hq : (qryV s r false p).2.2.1 = 0 := by
    unfold unmE at h0
    by_cases h : (qryV s r false p).2.2.1 = 0
    · exact h
    · rw [if_neg h] at h0; exact absurd h0 h
  have hs : splE s o r p = 0 := by unfold unmE at h0; rw [if_pos hq] at h0; exact h0
  obtain ⟨h1, _, _⟩ := I.nl_split hr hp he hpr hs
  have hU : unmS s o r false p = thinS (wayL (splS s o r p).1 p 3 r).reverse (stL (splS s o r p).1 (endX (splS s o r p).1 r p).2.2.1 0, (splS s o r p).2) := by
    unfold unmS; rw [if_pos hq, if_pos hs]
  rw [hU]
  have := nl_thin (wayL (splS s o r p).1 p 3 r).reverse (stL (splS s o r p).1 (endX (splS s o r p).1 r p).2.2.1 0, (splS s o r p).2)
  have h2 : nlW (stL (splS s o r p).1 (endX (splS s o r p).1 r p).2.2.1 0) ≤ nlW (splS s o r p).1 := nl_le lg0
  have h3 : nlW (thinS (wayL (splS s o r p).1 p 3 r).reverse (stL (splS s o r p).1 (endX (splS s o r p).1 r p).2.2.1 0, (splS s o r p).2)).1 ≤ nlW (stL (splS s o r p).1 (endX (splS s o r p).1 r p).2.2.1 0) := this
  omega
theorem nl_pos (I : Inv g s) {o p f : Int} {j : Nat} (he : EndAt g s o p f j) (hpr : (entA s.1 (16 * f + px j p % 16)).1 = true) : j ≤ nlW s.1 ∧ j ≤ 1 := by
  have hi := px_i p j
  have hfr := I.rng he.1
  rcases I.leaf he.1 hi.1 hi.2 hpr he.2 with ⟨rfl, _⟩ | ⟨rfl, hlg, _⟩
  · omega
  · have hlg' : lgV (ldV s.1 (16 * f + px 1 p % 16)) = true := hlg
    have hin : inM s.1 (16 * f + px 1 p % 16) = true := inM_rng (by omega) (by omega)
    have := nl_set (v := 0) hin
    rw [hlg', lg0, if_pos rfl, if_neg (by decide)] at this
    omega
/-- No page is mapped: the root is alone, and its words are all 0. -/
theorem bare (I : Inv g s) (hR : Rt g) (hN : NEx g s none) {o r : Int} (hr : g r = some (o, 3, 0)) (h : ∀ q, 0 ≤ q ∧ q < 65536 → (qryV s r false q).2.2.1 ≠ 0) :
    (∀ f l x, g f = some (o, l, x) → f = r) ∧ allS2 s r false = [r] ∧ ∀ k, 0 ≤ k → k < 16 → ldV s.1 (16 * r + k) = 0 := by
  have only : ∀ f l x, g f = some (o, l, x) → f = r := by
    intro f l x hf
    have hl := (I.kd hf).2.2.2.2.2
    by_cases e : l = 3
    · subst e
      have : x = 0 := hR _ _ _ hf
      subst this
      exact I.inj hf hr
    · obtain ⟨q, f', j, q1, q2, q3, q4⟩ := I.page_under hR hN l (by omega) hf
      exfalso
      refine h q q1 ?_
      rw [I.qry_of hr q1 q3]
      unfold resE
      rw [if_pos q4]
  refine ⟨only, ?_, fun k k0 k1 => ?_⟩
  · have hp : (underL s.1 3 r).Perm [r] := (List.perm_ext_iff_of_nodup (I.under_nodup 3 hr) (by simp)).2 fun z => by
      rw [I.under_mem hR hr, List.mem_singleton]
      constructor
      · rintro ⟨l, x, hz⟩; exact only z l x hz
      · rintro rfl; exact ⟨_, _, hr⟩
    have e : underL s.1 3 r = [r] := List.perm_singleton.1 hp
    show (if false = true then [] else sortI (underL s.1 3 r)) = [r]
    rw [if_neg (by decide), e]; rfl
  · refine I.wf hr k0 k1 ?_
    cases hb : (entA s.1 (16 * r + k)).1 with
    | false => rfl
    | true =>
      exfalso
      cases ht : tabP (entA s.1 (16 * r + k)) with
      | true =>
        obtain ⟨m, hm, h2⟩ := I.tab hr k0 k1 ht
        have e := only _ _ _ h2
        rw [e, hr] at h2
        simp only [Option.some.injEq, Prod.mk.injEq] at h2
        omega
      | false =>
        rcases I.leaf hr k0 k1 hb ht with ⟨h0, _⟩ | ⟨h1, _⟩ <;> omega
end Inv
end Go.Proofs.YtkldededdgpmbaaGreat
