import Derived.Test.YtffnfcokgemgjaaRx
import Derived.Deep.Slices
import Derived.ProofKit
import Derived.OpenShut
/-! Arguments that are made of numbers and truth values, read: what a value of such a type is. -/
namespace Go.RX
set_option linter.unusedSimpArgs false
set_option linter.unusedVariables false
open Go.ChangeShapes Go.WideShapes Go.RowKit
variable {H : Type} {enc : TypeId × Value → H} {P : Program} {w : World} {base : Nat} {spare : Nat → Bool} {held : Bool}

/-- The cells of a type that is made of numbers and truth values. -/
def flatFs (P : Program) (g : TypeId → Option (List Sc)) : Nat → List Field → Option (List Sc)
  | _, [] => some []
  | off, f :: r => match g f.type with
    | some a => if f.offset = off ∧ P.cellsOf f.type = a.length then match flatFs P g (off + a.length) r with
        | some b => some (a ++ b)
        | none => none
      else none
    | none => none
def flatOf (P : Program) : Nat → TypeId → Option (List Sc)
  | 0, _ => none
  | d + 1, t => match P.underlying t with
    | some (.int k) => some [.int k]
    | some .bool => some [.bool]
    | some (.struct fs) => match flatFs P (flatOf P d) 0 fs.toList with
      | some a => if P.cellsOf t = a.length then some a else none
      | none => none
    | some (.array n e) => match flatOf P d e with
      | some a => if P.cellsOf e = a.length ∧ P.cellsOf t = n * a.length then some (List.replicate n a).flatten else none
      | none => none
    | _ => none
def okSc : (s : Sc) → s.T → Prop
  | .int k, x => (Lit.int k x).wf = true
  | _, _ => True
def okScs : (l : List Sc) → ScsT l → Prop
  | [], _ => True
  | s :: r, x => okSc s x.1 ∧ okScs r x.2
theorem scs_append : ∀ (a b : List Sc) (x : ScsT a) (y : ScsT b), okScs a x → okScs b y → ∃ z : ScsT (a ++ b), scsEmb (a ++ b) z = scsEmb a x ++ scsEmb b y ∧ okScs (a ++ b) z
  | [], b, _, y, _, hy => ⟨y, rfl, hy⟩
  | s :: r, b, x, y, hx, hy => by
    obtain ⟨z, h1, h2⟩ := scs_append r b x.2 y hx.2 hy
    exact ⟨(x.1, z), by simp only [List.cons_append, scsEmb, h1], hx.1, h2⟩

theorem trod_fs {g : TypeId → Option (List Sc)} {m : Nat} (hg : ∀ t ss cs y, g t = some ss → DataW.trod enc P w base spare held m t cs = some y → ∃ x : ScsT ss, cs = scsEmb ss x ∧ okScs ss x)
    {cs : List Value} {fs : Array Field} {xs : List (DataW H × List MemPlace)} (hxs : xs.length = fs.size)
    (hf : ∀ (i : Nat) (f : Field), fs[i]? = some f → DataW.trod enc P w base spare held m f.type ((cs.drop f.offset).take (P.cellsOf f.type)) = xs[i]?) :
    ∀ (l : List Field) (i off : Nat) (ss : List Sc), fs.toList.drop i = l → flatFs P g off l = some ss → cs.length = off + ss.length → ∃ x : ScsT ss, cs.drop off = scsEmb ss x ∧ okScs ss x
  | [], i, off, ss, _, h, hlen => by
    simp only [flatFs, Option.some.injEq] at h
    subst h
    refine ⟨(), ?_, trivial⟩
    rw [List.drop_eq_nil_of_le (by simp at hlen; omega)]; rfl
  | f :: r, i, off, ss, hl, h, hlen => by
    simp only [flatFs] at h
    split at h
    · rename_i a ha
      split at h
      · rename_i hc
        split at h
        · rename_i b hb
          cases h
          have hi : i < fs.toList.length := by
            apply Nat.lt_of_not_le; intro hle
            rw [List.drop_eq_nil_of_le hle] at hl; cases hl
          have hfi : fs[i]? = some f := by
            have := congrArg (·[0]?) hl
            simp only [List.getElem?_drop, Nat.add_zero, List.getElem?_cons_zero] at this
            simpa using this
          have hti := hf i f hfi
          have hxi : ∃ y, xs[i]? = some y := ⟨_, List.getElem?_eq_getElem (by rw [hxs]; simpa using hi)⟩
          obtain ⟨y, hy⟩ := hxi
          rw [hy, hc.1, hc.2] at hti
          obtain ⟨x, hx1, hx2⟩ := hg _ _ _ _ ha hti
          have hdr : fs.toList.drop (i + 1) = r := by
            have := congrArg (List.drop 1) hl
            simpa [List.drop_drop] using this
          obtain ⟨z, hz1, hz2⟩ := trod_fs hg hxs hf r (i + 1) (off + a.length) b hdr hb (by rw [hlen]; simp; omega)
          obtain ⟨u, hu1, hu2⟩ := scs_append a b x z hx2 hz2
          refine ⟨u, ?_, hu2⟩
          rw [hu1, ← hx1, ← hz1, ← List.drop_drop]
          exact (List.take_append_drop _ _).symm
        · cases h
      · cases h
    · cases h

theorem trod_reps {a : List Sc} {cs : List Value} : ∀ (n off : Nat), (∀ i, i < n → ∃ x : ScsT a, (cs.drop (off + i * a.length)).take a.length = scsEmb a x ∧ okScs a x) → cs.length = off + n * a.length →
    ∃ x : ScsT (List.replicate n a).flatten, cs.drop off = scsEmb _ x ∧ okScs _ x
  | 0, off, _, hl => by
    refine ⟨(), ?_, trivial⟩
    rw [List.drop_eq_nil_of_le (by omega)]; rfl
  | n + 1, off, h, hl => by
    obtain ⟨x, hx1, hx2⟩ := h 0 (by omega)
    obtain ⟨z, hz1, hz2⟩ := trod_reps (a := a) (cs := cs) n (off + a.length) (fun i hi => by
      have := h (i + 1) (by omega)
      rw [show off + (i + 1) * a.length = off + a.length + i * a.length by rw [Nat.add_mul]; omega] at this
      exact this) (by rw [hl, Nat.add_mul]; omega)
    obtain ⟨u, hu1, hu2⟩ := scs_append a (List.replicate n a).flatten x z hx2 hz2
    refine ⟨u, ?_, hu2⟩
    show _ = scsEmb (a ++ (List.replicate n a).flatten) u
    rw [hu1, ← hx1, ← hz1, Nat.zero_mul, Nat.add_zero, ← List.drop_drop]
    exact (List.take_append_drop _ _).symm

theorem trod_flat : ∀ (d m : Nat) (t : TypeId) (ss : List Sc) (cs : List Value) (y : DataW H × List MemPlace), flatOf P d t = some ss → DataW.trod enc P w base spare held m t cs = some y → ∃ x : ScsT ss, cs = scsEmb ss x ∧ okScs ss x
  | 0, _, _, _, _, _, h, _ => by simp [flatOf] at h
  | d + 1, m, t, ss, cs, y, h, ht => by
    simp only [flatOf] at h
    split at h
    · rename_i k hk
      cases h
      obtain ⟨n, rfl, _, hw⟩ := DataW.trod_int hk ht
      exact ⟨(n, ()), rfl, hw, trivial⟩
    · rename_i hk
      cases h
      obtain ⟨b, rfl, _⟩ := DataW.trod_bool hk ht
      exact ⟨(b, ()), rfl, trivial, trivial⟩
    · rename_i fs hk
      split at h
      · rename_i a ha
        split at h
        · rename_i hc
          cases h
          obtain ⟨xs, n, _, _, hl, hlen, hf⟩ := DataW.trod_struct hk ht
          obtain ⟨x, h1, h2⟩ := trod_fs (fun t ss cs y h1 h2 => trod_flat d n t ss cs y h1 h2) hlen hf fs.toList 0 0 _ rfl ha (by rw [hl, hc]; omega)
          exact ⟨x, by simpa using h1, h2⟩
        · cases h
      · cases h
    · rename_i n e hk
      split at h
      · rename_i a ha
        split at h
        · rename_i hc
          cases h
          obtain ⟨xs, k, _, _, hl, hlen, hf⟩ := DataW.trod_array hk ht
          obtain ⟨x, h1, h2⟩ := trod_reps (a := a) (cs := cs) n 0 (fun i hi => by
            have h3 := hf i hi
            have hxi : xs[i]? = some xs[i] := List.getElem?_eq_getElem (by omega)
            rw [hxi, hc.1] at h3
            rw [Nat.zero_add]
            exact trod_flat d k e a _ _ ha h3) (by rw [hl, hc.2]; omega)
          exact ⟨x, by simpa using h1, h2⟩
        · cases h
      · cases h
    · cases h

/-- A row or a struct, by value. -/
theorem open_flat {r : Reach} {b0 : Nat} {t : TypeId} {v : Value} {dd : DataW H} {ps : List MemPlace} (d : Nat) {ss : List Sc} (hf : flatOf P d t = some ss) (hagg : (∃ n e, P.underlying t = some (.array n e)) ∨ ∃ fs, P.underlying t = some (.struct fs))
    (hv : Value.okWide P w r b0 t v) (h : DataW.Trod enc P w base spare held t v dd ps) : ∃ x : ScsT ss, v = .agg ⟨scsEmb ss x⟩ ∧ okScs ss x := by
  obtain ⟨fuel, ht⟩ := h
  have hc : ∃ cs, v = .agg cs := by
    unfold Value.okWide at hv
    rcases hagg with ⟨n, e, h⟩ | ⟨fs, h⟩ <;> (rw [h] at hv; obtain ⟨cs, hcs, _⟩ := hv; exact ⟨cs, hcs⟩)
  obtain ⟨cs, rfl⟩ := hc
  obtain ⟨x, h1, h2⟩ := trod_flat d _ _ _ _ _ hf ht
  refine ⟨x, ?_, h2⟩
  have : cs.toList = scsEmb ss x := h1
  rw [← this]

/-- A slice of rows or structs. -/
theorem open_slice_flat {t e : TypeId} {a : Option Addr} {n c : Nat} {dd : DataW H} {ps : List MemPlace} (d : Nat) {ss : List Sc} (ht : P.underlying t = some (.slice e)) (hf : flatOf P d e = some ss) (hc : P.cellsOf e = ss.length)
    (h : DataW.Trod enc P w base spare held t (.slice a n c) dd ps) : ∃ xs : List (ScsT ss), n = xs.length ∧ n ≤ maxLen ∧ Sl w (.agg ss) a xs ∧ ∀ x ∈ xs, okScs ss x := by
  obtain ⟨fuel, hf1⟩ := h
  rcases Deep.open_slice ht hf1 with ⟨hcs, _⟩ | ⟨x, len, cap, m, k, D, Pl, hcs, _, hl, hm, hmm, _, hx⟩
  · simp [Value.cells] at hcs
    obtain ⟨rfl, rfl, rfl⟩ := hcs
    exact ⟨[], rfl, Nat.zero_le _, fun i x hx => by simp at hx, fun x hx => by simp at hx⟩
  · simp [Value.cells] at hcs
    obtain ⟨rfl, rfl, rfl⟩ := hcs
    have hlm : n ≤ m := by rw [hmm]; split <;> omega
    have each : ∀ i, i < n → ∃ y : ScsT ss, (∀ j, j < ss.length → w.cell? ((x.add (i * ss.length)).add j) = (scsEmb ss y)[j]?) ∧ okScs ss y := by
      intro i hi
      obtain ⟨cs', h1, h2⟩ := hx i (by omega)
      obtain ⟨y, hy1, hy2⟩ := trod_flat d _ _ _ _ _ hf h2
      obtain ⟨_, hlen, hcell⟩ := World.cells?_some h1
      rw [hc] at h1 hlen hcell
      refine ⟨y, fun j hj => ?_, hy2⟩
      rw [← hy1]
      exact hcell j hj
    have : ∀ k, k ≤ n → ∃ xs : List (ScsT ss), xs.length = k ∧ (∀ i y, xs[i]? = some y → (∀ j, j < ss.length → w.cell? ((x.add (i * ss.length)).add j) = (scsEmb ss y)[j]?) ∧ okScs ss y) := by
      intro k
      induction k with
      | zero => intro _; exact ⟨[], rfl, fun i y hy => by simp at hy⟩
      | succ k ih =>
        intro hk
        obtain ⟨xs, h1, h2⟩ := ih (by omega)
        obtain ⟨y, hy⟩ := each k (by omega)
        refine ⟨xs ++ [y], by simp [h1], fun i z hz => ?_⟩
        by_cases hi : i < xs.length
        · rw [List.getElem?_append_left hi] at hz; exact h2 i z hz
        · rw [List.getElem?_append_right (by omega)] at hz
          have : i - xs.length = 0 := by
            have := (List.getElem?_eq_some_iff.1 hz).1
            simp at this; omega
          rw [this] at hz
          simp at hz
          subst hz
          rw [show i = k by omega]
          exact hy
    obtain ⟨xs, h1, h2⟩ := this n (Nat.le_refl n)
    refine ⟨xs, h1.symm, by omega, fun i y hy => ⟨rfl, x.add (i * ss.length), rfl, fun j hj => (h2 i y hy).1 j hj⟩, fun y hy => ?_⟩
    obtain ⟨i, hi⟩ := List.getElem?_of_mem hy
    exact (h2 i y hi).2

/-- A slice of numbers. -/
theorem open_slice_ints {t e : TypeId} {k : IntKind} {a : Option Addr} {n c : Nat} {dd : DataW H} {ps : List MemPlace} (ht : P.underlying t = some (.slice e)) (he : P.underlying e = some (.int k)) (hc : P.cellsOf e = 1)
    (h : DataW.Trod enc P w base spare held t (.slice a n c) dd ps) : ∃ xs : List Int, n = xs.length ∧ n ≤ maxLen ∧ Sl w (.one (.int k)) a xs ∧ ∀ x ∈ xs, (Lit.int k x).wf = true := by
  obtain ⟨xs, h1, h2, h3, h4⟩ := open_slice_flat (ss := [.int k]) 1 ht (by simp [flatOf, he]) hc h
  refine ⟨xs.map (·.1), by simp [h1], h2, fun i x hx => ?_, fun x hx => ?_⟩
  · rw [List.getElem?_map] at hx
    cases hy : xs[i]? with
    | none => rw [hy] at hx; cases hx
    | some y =>
      rw [hy] at hx
      simp only [Option.map_some, Option.some.injEq] at hx
      subst hx
      obtain ⟨h5, h6⟩ := h3 i y hy
      refine ⟨h5, ?_⟩
      obtain ⟨b, hb, hcell⟩ := h6
      refine ⟨b, hb, ?_⟩
      have := hcell 0 (by simp)
      simpa [Addr.add, scsEmb] using this
  · obtain ⟨y, hy, rfl⟩ := List.mem_map.1 hx
    exact (h4 y hy).1
end Go.RX
