import Derived.Test.YtkldededdgpmbaaGreatRx
import Derived.Deep.Slices
import Derived.ProofKit
import Derived.OpenShut
import Derived.Test.YtkldededdgpmbaaGreatProg
/-! Arguments that are made of numbers and truth values, read: what a value of such a type is. -/
namespace Go.RX
set_option linter.unusedSimpArgs false
set_option linter.unusedVariables false
set_option maxRecDepth 100000
open Go.ChangeShapes Go.WideShapes Go.RowKit
variable {H : Type} {enc : TypeId × Value → H} {P : Program} {w : World} {base : Nat} {spare : Nat → Bool} {held : Bool}

/-- The cells of a type that is made of numbers and truth values. -/
def flatFs (P : Program) (g : TypeId → Option (List Sc)) : Nat → List Field → Option (List Sc)
  | _, [] => some []
  | off, f :: r => match g f.type with
    | some a => if f.offset = off ∧ P.cellsOf f.type = a.length then match flatFs P g (off + a.length) r with
        | some b => some (a ++ b)
        | none => none
      else none
    | none => none
def flatOf (P : Program) : Nat → TypeId → Option (List Sc)
  | 0, _ => none
  | d + 1, t => match P.underlying t with
    | some (.int k) => some [.int k]
    | some .bool => some [.bool]
    | some (.struct fs) => match flatFs P (flatOf P d) 0 fs.toList with
      | some a => if P.cellsOf t = a.length then some a else none
      | none => none
    | some (.array n e) => match flatOf P d e with
      | some a => if P.cellsOf e = a.length ∧ P.cellsOf t = n * a.length then some (List.replicate n a).flatten else none
      | none => none
    | _ => none
def okSc : (s : Sc) → s.T → Prop
  | .int k, x => (Lit.int k x).wf = true
  | _, _ => True
def okScs : (l : List Sc) → ScsT l → Prop
  | [], _ => True
  | s :: r, x => okSc s x.1 ∧ okScs r x.2
theorem scs_append : ∀ (a b : List Sc) (x : ScsT a) (y : ScsT b), okScs a x → okScs b y → ∃ z : ScsT (a ++ b), scsEmb (a ++ b) z = scsEmb a x ++ scsEmb b y ∧ okScs (a ++ b) z
  | [], b, _, y, _, hy => ⟨y, rfl, hy⟩
  | s :: r, b, x, y, hx, hy => by
    obtain ⟨z, h1, h2⟩ := scs_append r b x.2 y hx.2 hy
    exact ⟨(x.1, z), by simp only [List.cons_append, scsEmb, h1], hx.1, h2⟩

theorem trod_fs {g : TypeId → Option (List Sc)} {m : Nat} (hg : ∀ t ss cs y, g t = some ss → DataW.trod enc P w base spare held m t cs = some y → ∃ x : ScsT ss, cs = scsEmb ss x ∧ okScs ss x)
    {cs : List Value} {fs : Array Field} {xs : List (DataW H × List MemPlace)} (hxs : xs.length = fs.size)
    (hf : ∀ (i : Nat) (f : Field), fs[i]? = some f → DataW.trod enc P w base spare held m f.type ((cs.drop f.offset).take (P.cellsOf f.type)) = xs[i]?) :
    ∀ (l : List Field) (i off : Nat) (ss : List Sc), fs.toList.drop i = l → flatFs P g off l = some ss → cs.length = off + ss.length → ∃ x : ScsT ss, cs.drop off = scsEmb ss x ∧ okScs ss x
  | [], i, off, ss, _, h, hlen => by
    simp only [flatFs, Option.some.injEq] at h
    subst h
    refine ⟨(), ?_, trivial⟩
    rw [List.drop_eq_nil_of_le (by simp at hlen; omega)]; rfl
  | f :: r, i, off, ss, hl, h, hlen => by
    simp only [flatFs] at h
    split at h
    · rename_i a ha
      split at h
      · rename_i hc
        split at h
        · rename_i b hb
          cases h
          have hi : i < fs.toList.length := by
            apply Nat.lt_of_not_le; intro hle
            rw [List.drop_eq_nil_of_le hle] at hl; cases hl
          have hfi : fs[i]? = some f := by
            have := congrArg (·[0]?) hl
            simp only [List.getElem?_drop, Nat.add_zero, List.getElem?_cons_zero] at this
            simpa using this
          have hti := hf i f hfi
          have hxi : ∃ y, xs[i]? = some y := ⟨_, List.getElem?_eq_getElem (by rw [hxs]; simpa using hi)⟩
          obtain ⟨y, hy⟩ := hxi
          rw [hy, hc.1, hc.2] at hti
          obtain ⟨x, hx1, hx2⟩ := hg _ _ _ _ ha hti
          have hdr : fs.toList.drop (i + 1) = r := by
            have := congrArg (List.drop 1) hl
            simpa [List.drop_drop] using this
          obtain ⟨z, hz1, hz2⟩ := trod_fs hg hxs hf r (i + 1) (off + a.length) b hdr hb (by rw [hlen]; simp; omega)
          obtain ⟨u, hu1, hu2⟩ := scs_append a b x z hx2 hz2
          refine ⟨u, ?_, hu2⟩
          rw [hu1, ← hx1, ← hz1, ← List.drop_drop]
          exact (List.take_append_drop _ _).symm
        · cases h
      · cases h
    · cases h

theorem trod_reps {a : List Sc} {cs : List Value} : ∀ (n off : Nat), (∀ i, i < n → ∃ x : ScsT a, (cs.drop (off + i * a.length)).take a.length = scsEmb a x ∧ okScs a x) → cs.length = off + n * a.length →
    ∃ x : ScsT (List.replicate n a).flatten, cs.drop off = scsEmb _ x ∧ okScs _ x
  | 0, off, _, hl => by
    refine ⟨(), ?_, trivial⟩
    rw [List.drop_eq_nil_of_le (by omega)]; rfl
  | n + 1, off, h, hl => by
    obtain ⟨x, hx1, hx2⟩ := h 0 (by omega)
    obtain ⟨z, hz1, hz2⟩ := trod_reps (a := a) (cs := cs) n (off + a.length) (fun i hi => by
      have := h (i + 1) (by omega)
      rw [show off + (i + 1) * a.length = off + a.length + i * a.length by rw [Nat.add_mul]; omega] at this
      exact this) (by rw [hl, Nat.add_mul]; omega)
    obtain ⟨u, hu1, hu2⟩ := scs_append a (List.replicate n a).flatten x z hx2 hz2
    refine ⟨u, ?_, hu2⟩
    show _ = scsEmb (a ++ (List.replicate n a).flatten) u
    rw [hu1, ← hx1, ← hz1, Nat.zero_mul, Nat.add_zero, ← List.drop_drop]
    exact (List.take_append_drop _ _).symm

theorem trod_flat : ∀ (d m : Nat) (t : TypeId) (ss : List Sc) (cs : List Value) (y : DataW H × List MemPlace), flatOf P d t = some ss → DataW.trod enc P w base spare held m t cs = some y → ∃ x : ScsT ss, cs = scsEmb ss x ∧ okScs ss x
  | 0, _, _, _, _, _, h, _ => by simp [flatOf] at h
  | d + 1, m, t, ss, cs, y, h, ht => by
    simp only [flatOf] at h
    split at h
    · rename_i k hk
      cases h
      obtain ⟨n, rfl, _, hw⟩ := DataW.trod_int hk ht
      exact ⟨(n, ()), rfl, hw, trivial⟩
    · rename_i hk
      cases h
      obtain ⟨b, rfl, _⟩ := DataW.trod_bool hk ht
      exact ⟨(b, ()), rfl, trivial, trivial⟩
    · rename_i fs hk
      split at h
      · rename_i a ha
        split at h
        · rename_i hc
          cases h
          obtain ⟨xs, n, _, _, hl, hlen, hf⟩ := DataW.trod_struct hk ht
          obtain ⟨x, h1, h2⟩ := trod_fs (fun t ss cs y h1 h2 => trod_flat d n t ss cs y h1 h2) hlen hf fs.toList 0 0 _ rfl ha (by rw [hl, hc]; omega)
          exact ⟨x, by simpa using h1, h2⟩
        · cases h
      · cases h
    · rename_i n e hk
      split at h
      · rename_i a ha
        split at h
        · rename_i hc
          cases h
          obtain ⟨xs, k, _, _, hl, hlen, hf⟩ := DataW.trod_array hk ht
          obtain ⟨x, h1, h2⟩ := trod_reps (a := a) (cs := cs) n 0 (fun i hi => by
            have h3 := hf i hi
            have hxi : xs[i]? = some xs[i] := List.getElem?_eq_getElem (by omega)
            rw [hxi, hc.1] at h3
            rw [Nat.zero_add]
            exact trod_flat d k e a _ _ ha h3) (by rw [hl, hc.2]; omega)
          exact ⟨x, by simpa using h1, h2⟩
        · cases h
      · cases h
    · cases h

/-- A row or a struct, by value. -/
theorem open_flat {r : Reach} {b0 : Nat} {t : TypeId} {v : Value} {dd : DataW H} {ps : List MemPlace} (d : Nat) {ss : List Sc} (hf : flatOf P d t = some ss) (hagg : (∃ n e, P.underlying t = some (.array n e)) ∨ ∃ fs, P.underlying t = some (.struct fs))
    (hv : Value.okWide P w r b0 t v) (h : DataW.Trod enc P w base spare held t v dd ps) : ∃ x : ScsT ss, v = .agg ⟨scsEmb ss x⟩ ∧ okScs ss x := by
  obtain ⟨fuel, ht⟩ := h
  have hc : ∃ cs, v = .agg cs := by
    unfold Value.okWide at hv
    rcases hagg with ⟨n, e, h⟩ | ⟨fs, h⟩ <;> (rw [h] at hv; obtain ⟨cs, hcs, _⟩ := hv; exact ⟨cs, hcs⟩)
  obtain ⟨cs, rfl⟩ := hc
  obtain ⟨x, h1, h2⟩ := trod_flat d _ _ _ _ _ hf ht
  refine ⟨x, ?_, h2⟩
  have : cs.toList = scsEmb ss x := h1
  rw [← this]

/-- A slice of rows or structs. -/
theorem open_slice_flat {t e : TypeId} {a : Option Addr} {n c : Nat} {dd : DataW H} {ps : List MemPlace} (d : Nat) {ss : List Sc} (ht : P.underlying t = some (.slice e)) (hf : flatOf P d e = some ss) (hc : P.cellsOf e = ss.length)
    (h : DataW.Trod enc P w base spare held t (.slice a n c) dd ps) : ∃ xs : List (ScsT ss), n = xs.length ∧ n ≤ maxLen ∧ Sl w (.agg ss) a xs ∧ ∀ x ∈ xs, okScs ss x := by
  obtain ⟨fuel, hf1⟩ := h
  rcases Deep.open_slice ht hf1 with ⟨hcs, _⟩ | ⟨x, len, cap, m, k, D, Pl, hcs, _, hl, hm, hmm, _, hx⟩
  · simp [Value.cells] at hcs
    obtain ⟨rfl, rfl, rfl⟩ := hcs
    exact ⟨[], rfl, Nat.zero_le _, fun i x hx => by simp at hx, fun x hx => by simp at hx⟩
  · simp [Value.cells] at hcs
    obtain ⟨rfl, rfl, rfl⟩ := hcs
    have hlm : n ≤ m := by rw [hmm]; split <;> omega
    have each : ∀ i, i < n → ∃ y : ScsT ss, (∀ j, j < ss.length → w.cell? ((x.add (i * ss.length)).add j) = (scsEmb ss y)[j]?) ∧ okScs ss y := by
      intro i hi
      obtain ⟨cs', h1, h2⟩ := hx i (by omega)
      obtain ⟨y, hy1, hy2⟩ := trod_flat d _ _ _ _ _ hf h2
      obtain ⟨_, hlen, hcell⟩ := World.cells?_some h1
      rw [hc] at h1 hlen hcell
      refine ⟨y, fun j hj => ?_, hy2⟩
      rw [← hy1]
      exact hcell j hj
    have : ∀ k, k ≤ n → ∃ xs : List (ScsT ss), xs.length = k ∧ (∀ i y, xs[i]? = some y → (∀ j, j < ss.length → w.cell? ((x.add (i * ss.length)).add j) = (scsEmb ss y)[j]?) ∧ okScs ss y) := by
      intro k
      induction k with
      | zero => intro _; exact ⟨[], rfl, fun i y hy => by simp at hy⟩
      | succ k ih =>
        intro hk
        obtain ⟨xs, h1, h2⟩ := ih (by omega)
        obtain ⟨y, hy⟩ := each k (by omega)
        refine ⟨xs ++ [y], by simp [h1], fun i z hz => ?_⟩
        by_cases hi : i < xs.length
        · rw [List.getElem?_append_left hi] at hz; exact h2 i z hz
        · rw [List.getElem?_append_right (by omega)] at hz
          have : i - xs.length = 0 := by
            have := (List.getElem?_eq_some_iff.1 hz).1
            simp at this; omega
          rw [this] at hz
          simp at hz
          subst hz
          rw [show i = k by omega]
          exact hy
    obtain ⟨xs, h1, h2⟩ := this n (Nat.le_refl n)
    refine ⟨xs, h1.symm, by omega, fun i y hy => ⟨rfl, x.add (i * ss.length), rfl, fun j hj => (h2 i y hy).1 j hj⟩, fun y hy => ?_⟩
    obtain ⟨i, hi⟩ := List.getElem?_of_mem hy
    exact (h2 i y hi).2

/-- A slice of numbers. -/
theorem open_slice_ints {t e : TypeId} {k : IntKind} {a : Option Addr} {n c : Nat} {dd : DataW H} {ps : List MemPlace} (ht : P.underlying t = some (.slice e)) (he : P.underlying e = some (.int k)) (hc : P.cellsOf e = 1)
    (h : DataW.Trod enc P w base spare held t (.slice a n c) dd ps) : ∃ xs : List Int, n = xs.length ∧ n ≤ maxLen ∧ Sl w (.one (.int k)) a xs ∧ ∀ x ∈ xs, (Lit.int k x).wf = true := by
  obtain ⟨xs, h1, h2, h3, h4⟩ := open_slice_flat (ss := [.int k]) 1 ht (by simp [flatOf, he]) hc h
  refine ⟨xs.map (·.1), by simp [h1], h2, fun i x hx => ?_, fun x hx => ?_⟩
  · rw [List.getElem?_map] at hx
    cases hy : xs[i]? with
    | none => rw [hy] at hx; cases hx
    | some y =>
      rw [hy] at hx
      simp only [Option.map_some, Option.some.injEq] at hx
      subst hx
      obtain ⟨h5, h6⟩ := h3 i y hy
      refine ⟨h5, ?_⟩
      obtain ⟨b, hb, hcell⟩ := h6
      refine ⟨b, hb, ?_⟩
      have := hcell 0 (by simp)
      simpa [Addr.add, scsEmb] using this
  · obtain ⟨y, hy, rfl⟩ := List.mem_map.1 hx
    exact (h4 y hy).1
end Go.RX
/-! Fields of words, in plain Lean. -/
namespace Go.Proofs.YtkldededdgpmbaaGreat
set_option linter.unusedSimpArgs false
set_option linter.unusedVariables false
set_option maxRecDepth 100000
open Go.RX

def fitsI (lo sz : Int) : Bool := decide (lo ≥ 0) && decide (lo < 64) && decide (sz ≥ 1) && decide (sz ≤ 64 - lo)
theorem fitsI_iff {lo sz : Int} : fitsI lo sz = true ↔ 0 ≤ lo ∧ lo < 64 ∧ 1 ≤ sz ∧ sz ≤ 64 - lo := by
  simp only [fitsI, Bool.and_eq_true, decide_eq_true_eq]; omega
/-- n bits from lo on. -/
def Mk (lo n : Nat) : BitVec 64 := (BitVec.allOnes 64 >>> (64 - n)) <<< lo
theorem Mk_bit {lo n j : Nat} (hn : n ≤ 64) : (Mk lo n).getLsbD j = (decide (lo ≤ j) && decide (j < lo + n) && decide (j < 64)) := by
  unfold Mk
  rw [BitVec.getLsbD_shiftLeft, BitVec.getLsbD_ushiftRight, BitVec.getLsbD_allOnes]
  by_cases h1 : j < 64 <;> by_cases h2 : lo ≤ j <;> by_cases h3 : j < lo + n <;> simp [h1, h2, h3] <;> omega
def maskB (lo sz : Int) : BitVec 64 := if fitsI lo sz = true then Mk lo.toNat sz.toNat else 0#64
def getB (w : BitVec 64) (lo sz : Int) : BitVec 64 := (w &&& maskB lo sz) >>> (maxI 0 (minI lo 63)).toNat
def putB (w : BitVec 64) (lo sz : Int) (v : BitVec 64) : BitVec 64 := if maskB lo sz = 0#64 then w else w &&& ~~~ maskB lo sz ||| v <<< lo.toNat &&& maskB lo sz

theorem ones_shift {lo sz : Int} (h : fitsI lo sz = true) : shlI .u64 (shrI .u64 18446744073709551615 (subI .i64 64 sz)) lo = U (maskB lo sz) := by
  have h' := fitsI_iff.1 h
  rw [show (18446744073709551615 : Int) = U (BitVec.allOnes 64) from rfl, shrI_U, shlI_U, subI_i64 (by omega) (by omega)]
  unfold maskB Mk
  rw [if_pos h]
  congr 4
  omega
theorem maskB_ne {lo sz : Int} (h : fitsI lo sz = true) : maskB lo sz ≠ 0#64 := by
  intro h0
  have h' := fitsI_iff.1 h
  have := congrArg (fun b => b.getLsbD lo.toNat) h0
  simp only [maskB, if_pos h] at this
  rw [Mk_bit (by omega)] at this
  simp at this
  omega
theorem maskB_none {lo sz : Int} (h : fitsI lo sz = false) : maskB lo sz = 0#64 := by simp [maskB, h]

/-- One bit. -/
def oneB (i : Nat) : BitVec 64 := 1#64 <<< i
theorem oneB_bit (i j : Nat) : (oneB i).getLsbD j = (decide (i = j) && decide (j < 64)) := by
  unfold oneB
  rw [BitVec.getLsbD_shiftLeft, BitVec.getLsbD_one]
  by_cases h1 : j < 64 <;> by_cases h2 : i = j <;> simp [h1, h2] <;> omega
theorem oneB_succ (i : Nat) : 2#64 * oneB i = oneB (i + 1) := by
  unfold oneB
  rw [BitVec.shiftLeft_add]
  apply BitVec.eq_of_toNat_eq
  simp [BitVec.toNat_shiftLeft, Nat.shiftLeft_eq]
  omega
theorem half (w : BitVec 64) : quoI .u64 (U w) 2 = U (w >>> 1) := by
  unfold quoI
  rw [wrap_u64]
  unfold U
  rw [BitVec.toNat_ushiftRight, Nat.shiftRight_eq_div_pow, Int.tdiv_eq_ediv_of_nonneg (by omega)]
  have := w.isLt
  omega
theorem odd (w : BitVec 64) : (remI (U w) 2 == 1) = w.getLsbD 0 := by
  unfold remI U
  rw [Int.tmod_eq_emod_of_nonneg (by omega), BitVec.getLsbD, Nat.testBit_zero]
  have : ((w.toNat : Int) % 2 == 1) = decide (w.toNat % 2 = 1) := by
    by_cases h : w.toNat % 2 = 1 <;> simp [h] <;> omega
  rw [this]

theorem Mk_succ {lo k : Nat} (h : lo + k < 64) : Mk lo k + oneB (lo + k) = Mk lo (k + 1) := by
  rw [BitVec.add_eq_or_of_and_eq_zero]
  · apply BitVec.eq_of_getLsbD_eq
    intro j hj
    rw [BitVec.getLsbD_or, Mk_bit (by omega), Mk_bit (by omega), oneB_bit]
    simp only [hj, decide_true, Bool.and_true]
    by_cases h1 : lo ≤ j <;> by_cases h2 : j < lo + k <;> by_cases h3 : lo + k = j <;> simp [h1, h2, h3] <;> omega
  · apply BitVec.eq_of_getLsbD_eq
    intro j hj
    rw [BitVec.getLsbD_and, Mk_bit (by omega), oneB_bit]
    simp only [hj, decide_true, Bool.and_true, BitVec.getLsbD_zero]
    by_cases h1 : lo ≤ j <;> by_cases h2 : j < lo + k <;> by_cases h3 : lo + k = j <;> simp [h1, h2, h3] <;> omega
theorem Mk_zero (lo : Nat) : Mk lo 0 = 0#64 := by
  apply BitVec.eq_of_getLsbD_eq
  intro j hj
  rw [Mk_bit (by omega)]
  simp; omega
/-- The first k bits of a field. -/
def Gk (w : BitVec 64) (lo k : Nat) : BitVec 64 := (w >>> lo) &&& Mk 0 k
theorem Gk_zero (w : BitVec 64) (lo : Nat) : Gk w lo 0 = 0#64 := by simp [Gk, Mk_zero]
theorem Gk_bit {w : BitVec 64} {lo k j : Nat} (hk : k ≤ 64) : (Gk w lo k).getLsbD j = (w.getLsbD (lo + j) && decide (j < k)) := by
  unfold Gk
  rw [BitVec.getLsbD_and, BitVec.getLsbD_ushiftRight, Mk_bit hk]
  by_cases h : j < k <;> simp [h]
  omega
theorem Gk_one {w : BitVec 64} {lo k : Nat} (h : lo + k < 64) (hb : w.getLsbD (lo + k) = true) : Gk w lo k + oneB k = Gk w lo (k + 1) := by
  rw [BitVec.add_eq_or_of_and_eq_zero]
  · apply BitVec.eq_of_getLsbD_eq
    intro j hj
    rw [BitVec.getLsbD_or, Gk_bit (by omega), Gk_bit (by omega), oneB_bit]
    simp only [hj, decide_true, Bool.and_true]
    by_cases h3 : k = j
    · subst h3; simp [hb]
    · have : (j < k + 1) = (j < k) := by apply propext; omega
      simp [h3, this]
  · apply BitVec.eq_of_getLsbD_eq
    intro j hj
    rw [BitVec.getLsbD_and, Gk_bit (by omega), oneB_bit]
    by_cases h3 : k = j <;> simp [h3]
theorem Gk_none {w : BitVec 64} {lo k : Nat} (h : lo + k < 64) (hb : w.getLsbD (lo + k) = false) : Gk w lo k = Gk w lo (k + 1) := by
  apply BitVec.eq_of_getLsbD_eq
  intro j hj
  rw [Gk_bit (by omega), Gk_bit (by omega)]
  by_cases h3 : k = j
  · subst h3; simp [hb]
  · have : (j < k + 1) = (j < k) := by apply propext; omega
    simp [this]
/-- The first k bits of a field, put. -/
def Pk (w v : BitVec 64) (lo k : Nat) : BitVec 64 := w &&& ~~~ Mk lo k ||| v <<< lo &&& Mk lo k
theorem Pk_bit {w v : BitVec 64} {lo k j : Nat} (hk : k ≤ 64) (hj : j < 64) : (Pk w v lo k).getLsbD j = if lo ≤ j ∧ j < lo + k then v.getLsbD (j - lo) else w.getLsbD j := by
  unfold Pk
  rw [BitVec.getLsbD_or, BitVec.getLsbD_and, BitVec.getLsbD_and, BitVec.getLsbD_not, BitVec.getLsbD_shiftLeft, Mk_bit hk]
  by_cases h1 : lo ≤ j <;> by_cases h2 : j < lo + k <;> simp [h1, h2, hj]
  all_goals omega
theorem Pk_zero (w v : BitVec 64) (lo : Nat) : Pk w v lo 0 = w := by
  apply BitVec.eq_of_getLsbD_eq
  intro j hj
  rw [Pk_bit (by omega) hj, if_neg (by omega)]
theorem sub_oneB {a : BitVec 64} {i : Nat} (h : a.getLsbD i = true) : a - oneB i = a &&& ~~~ oneB i := by
  have hi : i < 64 := BitVec.lt_of_getLsbD h
  have e : (a &&& ~~~ oneB i) + oneB i = a := by
    rw [BitVec.add_eq_or_of_and_eq_zero]
    · apply BitVec.eq_of_getLsbD_eq
      intro j hj
      rw [BitVec.getLsbD_or, BitVec.getLsbD_and, BitVec.getLsbD_not, oneB_bit]
      by_cases h3 : i = j
      · subst h3; simp [h, hj]
      · simp [h3, hj]
    · apply BitVec.eq_of_getLsbD_eq
      intro j hj
      rw [BitVec.getLsbD_and, BitVec.getLsbD_and, BitVec.getLsbD_not, oneB_bit]
      by_cases h3 : i = j <;> simp [h3]
  rw [← e, BitVec.add_sub_cancel, e]
theorem add_oneB {a : BitVec 64} {i : Nat} (h : a.getLsbD i = false) : a + oneB i = a ||| oneB i := by
  rw [BitVec.add_eq_or_of_and_eq_zero]
  apply BitVec.eq_of_getLsbD_eq
  intro j hj
  rw [BitVec.getLsbD_and, oneB_bit]
  by_cases h3 : i = j
  · subst h3; simp [h]
  · simp [h3]
theorem Pk_same {w v : BitVec 64} {lo k : Nat} (h : lo + k < 64) : (Pk w v lo k).getLsbD (lo + k) = w.getLsbD (lo + k) := by
  rw [Pk_bit (by omega) h, if_neg (by omega)]
/-- One more bit is put. -/
theorem Pk_step {w v : BitVec 64} {lo k : Nat} (h : lo + k < 64) :
    (if v.getLsbD k = true then (if (Pk w v lo k).getLsbD (lo + k) = true then Pk w v lo k - oneB (lo + k) else Pk w v lo k) + oneB (lo + k) else (if (Pk w v lo k).getLsbD (lo + k) = true then Pk w v lo k - oneB (lo + k) else Pk w v lo k)) = Pk w v lo (k + 1) := by
  have hc : (if (Pk w v lo k).getLsbD (lo + k) = true then Pk w v lo k - oneB (lo + k) else Pk w v lo k) = Pk w v lo k &&& ~~~ oneB (lo + k) := by
    by_cases hb : (Pk w v lo k).getLsbD (lo + k) = true
    · rw [if_pos hb, sub_oneB hb]
    · rw [if_neg hb]
      apply BitVec.eq_of_getLsbD_eq
      intro j hj
      rw [BitVec.getLsbD_and, BitVec.getLsbD_not, oneB_bit]
      by_cases h3 : lo + k = j
      · subst h3; simp at hb; simp [hb]
      · simp [h3, hj]
  rw [hc]
  have h0 : (Pk w v lo k &&& ~~~ oneB (lo + k)).getLsbD (lo + k) = false := by
    rw [BitVec.getLsbD_and, BitVec.getLsbD_not, oneB_bit]; simp [h]
  apply BitVec.eq_of_getLsbD_eq
  intro j hj
  rw [Pk_bit (by omega) hj]
  by_cases h3 : lo + k = j
  · subst h3
    have e3 : (if lo ≤ lo + k ∧ lo + k < lo + (k + 1) then v.getLsbD (lo + k - lo) else w.getLsbD (lo + k)) = v.getLsbD k := by
      rw [if_pos (by omega), show lo + k - lo = k by omega]
    rw [e3]
    by_cases hv : v.getLsbD k = true
    · rw [if_pos hv, add_oneB h0, BitVec.getLsbD_or, oneB_bit, hv]; simp [h]
    · rw [if_neg hv, h0]; simp at hv; rw [hv]
  · have e1 : (Pk w v lo k &&& ~~~ oneB (lo + k)).getLsbD j = (Pk w v lo k).getLsbD j := by
      rw [BitVec.getLsbD_and, BitVec.getLsbD_not, oneB_bit]; simp [h3, hj]
    have e2 : (if lo ≤ j ∧ j < lo + (k + 1) then v.getLsbD (j - lo) else w.getLsbD j) = (Pk w v lo k).getLsbD j := by
      rw [Pk_bit (by omega) hj]
      have : (lo ≤ j ∧ j < lo + (k + 1)) = (lo ≤ j ∧ j < lo + k) := by apply propext; omega
      simp only [this]
    rw [e2]
    by_cases hv : v.getLsbD k = true
    · rw [if_pos hv, add_oneB h0, BitVec.getLsbD_or, oneB_bit, e1]; simp [h3]
    · rw [if_neg hv, e1]
theorem getB_Gk {w : BitVec 64} {lo sz : Int} (h : fitsI lo sz = true) : getB w lo sz = Gk w lo.toNat sz.toNat := by
  have h' := fitsI_iff.1 h
  unfold getB maskB
  rw [if_pos h]
  have e : (maxI 0 (minI lo 63)).toNat = lo.toNat := by unfold maxI minI; split <;> split <;> omega
  rw [e]
  apply BitVec.eq_of_getLsbD_eq
  intro j hj
  rw [Gk_bit (by omega), BitVec.getLsbD_ushiftRight, BitVec.getLsbD_and, Mk_bit (by omega)]
  by_cases h1 : lo.toNat + j < 64
  · by_cases h2 : j < sz.toNat <;> simp [h1, h2]
  · rw [BitVec.getLsbD_of_ge w _ (by omega)]; simp
theorem getB_none {w : BitVec 64} {lo sz : Int} (h : fitsI lo sz = false) : getB w lo sz = 0#64 := by
  unfold getB; rw [maskB_none h]; simp
theorem putB_Pk {w v : BitVec 64} {lo sz : Int} (h : fitsI lo sz = true) : putB w lo sz v = Pk w v lo.toNat sz.toNat := by
  unfold putB Pk
  rw [if_neg (maskB_ne h)]
  simp only [maskB, if_pos h]
theorem putB_none {w v : BitVec 64} {lo sz : Int} (h : fitsI lo sz = false) : putB w lo sz v = w := by
  unfold putB; rw [if_pos (maskB_none h)]

end Go.Proofs.YtkldededdgpmbaaGreat
/-! Fields as numbers. -/
namespace Go.Proofs.YtkldededdgpmbaaGreat
set_option linter.unusedSimpArgs false
set_option linter.unusedVariables false
set_option maxRecDepth 100000
open Go.RX
theorem fits_nat' {lo sz : Int} (h : fitsI lo sz = true) : lo.toNat + sz.toNat ≤ 64 ∧ 1 ≤ sz.toNat := by
  have := fitsI_iff.1 h; omega
theorem getB_nat {w : BitVec 64} {lo sz : Int} (h : fitsI lo sz = true) : (getB w lo sz).toNat = w.toNat / 2 ^ lo.toNat % 2 ^ sz.toNat := by
  have hn := fits_nat' h
  apply Nat.eq_of_testBit_eq
  intro j
  rw [BitVec.testBit_toNat, getB_Gk h, Gk_bit (by omega), Nat.testBit_mod_two_pow, Nat.testBit_div_two_pow, BitVec.testBit_toNat, Nat.add_comm j, Bool.and_comm]
theorem putB_nat {w v : BitVec 64} {lo sz : Int} (h : fitsI lo sz = true) (hw : w.toNat < 2 ^ lo.toNat) : (putB w lo sz v).toNat = 2 ^ lo.toNat * (v.toNat % 2 ^ sz.toNat) + w.toNat := by
  have hn := fits_nat' h
  apply Nat.eq_of_testBit_eq
  intro j
  rw [BitVec.testBit_toNat, putB_Pk h, Nat.testBit_two_pow_mul_add _ hw]
  by_cases hj : j < 64
  · rw [Pk_bit (by omega) hj]
    by_cases h1 : j < lo.toNat
    · rw [if_neg (by omega), if_pos h1, BitVec.testBit_toNat]
    · rw [if_neg h1, Nat.testBit_mod_two_pow, BitVec.testBit_toNat]
      by_cases h2 : j < lo.toNat + sz.toNat
      · rw [if_pos (by omega)]
        have : j - lo.toNat < sz.toNat := by omega
        simp [this]
      · rw [if_neg (by omega)]
        have h3 : ¬ j - lo.toNat < sz.toNat := by omega
        simp only [h3, decide_false, Bool.false_and]
        rw [← BitVec.testBit_toNat]
        exact Nat.testBit_lt_two_pow (Nat.lt_of_lt_of_le hw (Nat.pow_le_pow_right (by decide) (by omega)))
  · rw [BitVec.getLsbD_of_ge _ _ (by omega), if_neg (by omega), Nat.testBit_mod_two_pow]
    have h3 : ¬ j - lo.toNat < sz.toNat := by omega
    simp [h3]
theorem U_nat (b : BitVec 64) : U b = (b.toNat : Int) := rfl
theorem U_eq {b : BitVec 64} {n : Nat} (h : b.toNat = n) : U b = (n : Int) := by rw [U_nat, h]
end Go.Proofs.YtkldededdgpmbaaGreat
namespace Go.Proofs.YtkldededdgpmbaaGreat
set_option linter.unusedSimpArgs false
set_option linter.unusedVariables false
set_option maxRecDepth 100000
open Go.RX
theorem mx : Tryz.prog.follows .mixedOrders = true := by kernel_rfl
noncomputable def C0 : Cfg Tryz.prog := { tab := [], quiet := [], sh := [], mixed := mx }
theorem fits_vc (low size : Int) (w : World) (Post : Bool → World → Prop) : (rxFn C0 (fun _ => []) 136 [.int .i64 low, .int .i64 size] w Post) = (
 EnP w fun (w1 : World) => Post (decide (low ≥ 0) && decide (low < 64) && decide (size ≥ 1) && decide (size ≤ subI IntKind.i64 64 low)) w1) := by kernel_rfl
theorem is_vc (low size : Int) (w : World) (Post : Bool → World → Prop) : (rxFn C0 (fun _ => []) 132 [.int .i64 low, .int .i64 size] w Post) = (
 EnP w fun (w1 : World) => Post (decide (low ≥ 0) && decide (low < 64) && decide (size ≥ 1) && decide (size ≤ 64) && decide (addI IntKind.i64 low size ≤ 64)) w1) := by kernel_rfl
def bit_vc_ann : Nat → Slots := (fun | 2 => [(0, Go.RX.El.one (Go.RX.Sc.int Go.IntKind.u64)), (5, Go.RX.El.one (Go.RX.Sc.int Go.IntKind.i64))] | _ => [])
theorem bit_vc (v i : Int) (w : World) (Post : Bool → World → Prop) : (rxFn C0 bit_vc_ann 133 [.int .u64 v, .int .i64 i] w Post) = (
 ∃ (I : Nat → Int × Int × Unit → World → Prop),
  (∃ (n : Nat), ∀ (w1 : World), Ext w w1 → I n (v, 0, Unit.unit) w1) ∧
   ∀ (n : Nat) (s : Int × Int × Unit) (w1 : World),
    I n s w1 → brP (decide (s.snd.fst < i)) (∀ (w3 : World), Ext w1 w3 → ∃ (n' : Nat), n' < n ∧ I n' (quoI IntKind.u64 s.fst 2, addI IntKind.i64 s.snd.fst 1, Unit.unit) w3) (EnP w1 fun (w1 : World) => Post (remI s.fst 2 == 1) w1)) := by kernel_rfl
def one_vc_ann : Nat → Slots := (fun | 3 => [(3, Go.RX.El.one (Go.RX.Sc.int Go.IntKind.u64)), (4, Go.RX.El.one (Go.RX.Sc.int Go.IntKind.i64))] | _ => [])
theorem one_vc (i : Int) (w : World) (Post : Int → World → Prop) : (rxFn C0 one_vc_ann 134 [.int .i64 i] w Post) = (
 ∃ (I : Nat → Int × Int × Unit → World → Prop),
  (∃ (n : Nat), ∀ (w1 : World), Ext w w1 → I n (1, 0, Unit.unit) w1) ∧
   ∀ (n : Nat) (s : Int × Int × Unit) (w1 : World),
    I n s w1 → brP (decide (s.snd.fst < i)) (∀ (w3 : World), Ext w1 w3 → ∃ (n' : Nat), n' < n ∧ I n' (mulI IntKind.u64 2 s.fst, addI IntKind.i64 s.snd.fst 1, Unit.unit) w3) (EnP w1 fun (w1 : World) => Post s.fst w1)) := by kernel_rfl
theorem fitsI_eq (lo sz : Int) : (decide (lo ≥ 0) && decide (lo < 64) && decide (sz ≥ 1) && decide (sz ≤ subI .i64 64 lo)) = fitsI lo sz := by
  unfold fitsI
  by_cases h : 0 ≤ lo ∧ lo < 64
  · rw [subI_i64 (by omega) (by omega)]
  · by_cases h1 : lo ≥ 0 <;> by_cases h2 : lo < 64 <;> simp [h1, h2] <;> omega
noncomputable def eFits : Entry Tryz.prog where
  f := 136
  fn l := match l with
    | [.int .i64 lo, .int .i64 sz] => some (True, .bool (fitsI lo sz))
    | _ => none
  ok args pre v h _ w := by
    split at h
    · rename_i lo sz
      cases h
      refine entry_of (x := fitsI lo sz) (rxFn_ok (C := C0) (ann := fun _ => []) (Eq.mpr (fits_vc lo sz w _) fun w1 h1 => ⟨fitsI_eq lo sz, h1⟩))
    · cases h
theorem isI_eq (lo sz : Int) : (decide (lo ≥ 0) && decide (lo < 64) && decide (sz ≥ 1) && decide (sz ≤ 64) && decide (addI .i64 lo sz ≤ 64)) = fitsI lo sz := by
  unfold fitsI
  by_cases h : 0 ≤ lo ∧ lo < 64 ∧ 1 ≤ sz ∧ sz ≤ 64
  · rw [addI_i64 (by omega) (by omega)]
    obtain ⟨h1, h2, h3, h4⟩ := h
    simp [h1, h2, h3, h4]; omega
  · by_cases h1 : lo ≥ 0 <;> by_cases h2 : lo < 64 <;> by_cases h3 : sz ≥ 1 <;> by_cases h4 : sz ≤ 64 <;> simp [h1, h2, h3, h4] <;> omega
noncomputable def eIs : Entry Tryz.prog where
  f := 132
  fn l := match l with
    | [.int .i64 lo, .int .i64 sz] => some (True, .bool (fitsI lo sz))
    | _ => none
  ok args pre v h _ w := by
    split at h
    · rename_i lo sz
      cases h
      refine entry_of (x := fitsI lo sz) (rxFn_ok (C := C0) (ann := fun _ => []) (Eq.mpr (is_vc lo sz w _) fun w1 h1 => ⟨isI_eq lo sz, h1⟩))
    · cases h
theorem bit_ok (b : BitVec 64) (i : Int) (hi : i ≤ 64) (w : World) : CallsR Tryz.prog 133 (.el (.one .bool)) [.int .u64 (U b), .int .i64 i] w (fun x w' => x = b.getLsbD i.toNat ∧ Ext w w') := by
  refine rxFn_ok (C := C0) (ann := bit_vc_ann) (Eq.mpr (bit_vc (U b) i w _) ?_)
  refine ⟨fun n s w' => Ext w w' ∧ ∃ k : Nat, s.2.1 = k ∧ n + k = i.toNat ∧ s.1 = U (b >>> k), ⟨i.toNat, fun w1 h1 => ⟨h1, 0, rfl, rfl, by simp⟩⟩, ?_⟩
  rintro n ⟨x, j, u⟩ w1 ⟨hw, k, hk, hn, hx⟩
  simp only at hk hx
  subst hk; subst hx
  dsimp only
  refine brP_intro (fun h => ?_) (fun h => ?_)
  · simp only [decide_eq_true_eq] at h
    intro w3 h3
    refine ⟨n - 1, by omega, hw.trans h3, k + 1, ?_, by omega, ?_⟩
    · show addI _ _ _ = _
      rw [addI_i64 (by omega) (by omega)]; rfl
    · show quoI .u64 _ 2 = _
      rw [half, BitVec.shiftRight_add]
  · simp only [decide_eq_false_iff_not] at h
    intro w2 h2
    refine ⟨?_, hw.trans h2⟩
    show (remI _ 2 == 1) = _
    rw [odd]
    simp only [BitVec.getLsbD_ushiftRight, Nat.add_zero]
    congr 1; omega
noncomputable def eBit : Entry Tryz.prog where
  f := 133
  fn l := match l with
    | [.int .u64 b, .int .i64 i] => some (U (B b) = b ∧ i ≤ 64, .bool ((B b).getLsbD i.toNat))
    | _ => none
  ok args pre v h hp w := by
    split at h
    · rename_i b i
      cases h
      obtain ⟨h1, h2⟩ := hp
      have := entry_of (bit_ok (B b) i h2 w)
      rw [h1] at this
      exact this
    · cases h
theorem one_ok (i : Int) (hi : i ≤ 64) (w : World) : CallsR Tryz.prog 134 (.el (.one (.int .u64))) [.int .i64 i] w (fun x w' => x = U (oneB i.toNat) ∧ Ext w w') := by
  refine rxFn_ok (C := C0) (ann := one_vc_ann) (Eq.mpr (one_vc i w _) ?_)
  refine ⟨fun n s w' => Ext w w' ∧ ∃ k : Nat, s.2.1 = k ∧ n + k = i.toNat ∧ s.1 = U (oneB k), ⟨i.toNat, fun w1 h1 => ⟨h1, 0, rfl, rfl, rfl⟩⟩, ?_⟩
  rintro n ⟨x, j, u⟩ w1 ⟨hw, k, hk, hn, hx⟩
  simp only at hk hx
  subst hk; subst hx
  dsimp only
  refine brP_intro (fun h => ?_) (fun h => ?_)
  · simp only [decide_eq_true_eq] at h
    intro w3 h3
    refine ⟨n - 1, by omega, hw.trans h3, k + 1, ?_, by omega, ?_⟩
    · show addI _ _ _ = _
      rw [addI_i64 (by omega) (by omega)]; rfl
    · show mulI .u64 2 _ = _
      rw [show (2 : Int) = U 2#64 from rfl, mulI_U, oneB_succ]
  · simp only [decide_eq_false_iff_not] at h
    intro w2 h2
    refine ⟨?_, hw.trans h2⟩
    show U (oneB k) = _
    congr 2; omega
noncomputable def eOne : Entry Tryz.prog where
  f := 134
  fn l := match l with
    | [.int .i64 i] => some (i ≤ 64, .int .u64 (U (oneB i.toNat)))
    | _ => none
  ok args pre v h hp w := by
    split at h
    · rename_i i
      cases h
      exact entry_of (one_ok i hp w)
    · cases h
noncomputable def C1 : Cfg Tryz.prog := { C0 with tab := [eFits, eIs, eBit, eOne] }
theorem mask_vc (low size : Int) (w : World) (Post : Int → World → Prop) : (rxFn C1 (fun _ => []) 143 [.int .i64 low, .int .i64 size] w Post) = (
 True ∧ brP (!fitsI low size) (EnP w fun (w1 : World) => Post 0 w1) (0 ≤ subI IntKind.i64 64 size ∧ 0 ≤ low ∧ EnP w fun (w1 : World) => Post (shlI IntKind.u64 (shrI IntKind.u64 18446744073709551615 (subI IntKind.i64 64 size)) low) w1)) := by kernel_rfl
def rget_vc_ann : Nat → Slots := (fun | 3 => [(7, Go.RX.El.one (Go.RX.Sc.int Go.IntKind.u64)), (8, Go.RX.El.one (Go.RX.Sc.int Go.IntKind.i64))] | _ => [])
theorem rget_vc (v low size : Int) (w : World) (Post : Int → World → Prop) : (rxFn C1 rget_vc_ann 109 [.int .u64 v, .int .i64 low, .int .i64 size] w Post) = (
 ∃ (I : Nat → Int × Int × Unit → World → Prop),
  (∃ (n : Nat), ∀ (w1 : World), Ext w w1 → I n (0, 0, Unit.unit) w1) ∧
   ∀ (n : Nat) (s : Int × Int × Unit) (w1 : World),
    I n s w1 →
     (decide (s.snd.fst < size) = true → True) ∧
      brP (decide (s.snd.fst < size) && fitsI low size)
       ((U (B v) = v ∧ addI IntKind.i64 low s.snd.fst ≤ 64) ∧
        brP ((B v).getLsbD (addI IntKind.i64 low s.snd.fst).toNat) (s.snd.fst ≤ 64 ∧ ∀ (w3 : World), Ext w1 w3 → ∃ (n' : Nat), n' < n ∧ I n' (addI IntKind.u64 s.fst (U (oneB (Int.toNat s.snd.fst))), addI IntKind.i64 s.snd.fst 1, Unit.unit) w3)
         (∀ (w3 : World), Ext w1 w3 → ∃ (n' : Nat), n' < n ∧ I n' (s.fst, addI IntKind.i64 s.snd.fst 1, Unit.unit) w3))
       (EnP w1 fun (w1 : World) => Post s.fst w1)) := by kernel_rfl
theorem mask_ok (lo sz : Int) (w : World) : CallsR Tryz.prog 143 (.el (.one (.int .u64))) [.int .i64 lo, .int .i64 sz] w (fun x w' => x = U (maskB lo sz) ∧ Ext w w') := by
  refine rxFn_ok (C := C1) (ann := fun _ => []) (Eq.mpr (mask_vc lo sz w _) ⟨trivial, ?_⟩)
  refine brP_intro (fun h => ?_) (fun h => ?_)
  · intro w1 h1
    refine ⟨?_, h1⟩
    rw [maskB_none (by simpa using h)]; rfl
  · have h' : fitsI lo sz = true := by simpa using h
    have h2 := fitsI_iff.1 h'
    refine ⟨by rw [subI_i64 (by omega) (by omega)]; omega, h2.1, fun w1 h1 => ⟨ones_shift h', h1⟩⟩
noncomputable def eMask : Entry Tryz.prog where
  f := 143
  fn l := match l with
    | [.int .i64 lo, .int .i64 sz] => some (True, .int .u64 (U (maskB lo sz)))
    | _ => none
  ok args pre v h hp w := by
    split at h
    · rename_i lo sz
      cases h
      exact entry_of (mask_ok lo sz w)
    · cases h
/-- A loop that counts up to a field's size. -/
theorem upto {lo sz : Int} (k : Nat) (h : (decide ((k : Int) < sz) && fitsI lo sz) = true) : fitsI lo sz = true ∧ lo.toNat + k < 64 ∧ k < sz.toNat ∧ addI .i64 lo (k : Int) = ((lo.toNat + k : Nat) : Int) ∧ addI .i64 (k : Int) 1 = ((k + 1 : Nat) : Int) := by
  simp only [Bool.and_eq_true, decide_eq_true_eq] at h
  obtain ⟨h1, h2⟩ := h
  have h3 := fitsI_iff.1 h2
  refine ⟨h2, by omega, by omega, ?_, ?_⟩
  · rw [addI_i64 (by omega) (by omega)]; omega
  · rw [addI_i64 (by omega) (by omega)]; omega
theorem upto_end {lo sz : Int} {k : Nat} (hk : k ≤ sz.toNat) (h : (decide ((k : Int) < sz) && fitsI lo sz) = false) (hf : fitsI lo sz = true) : k = sz.toNat := by
  simp only [hf, Bool.and_true, decide_eq_false_iff_not] at h
  omega
theorem rget_ok (v : BitVec 64) (lo sz : Int) (w : World) : CallsR Tryz.prog 109 (.el (.one (.int .u64))) [.int .u64 (U v), .int .i64 lo, .int .i64 sz] w (fun x w' => x = U (getB v lo sz) ∧ Ext w w') := by
  refine rxFn_ok (C := C1) (ann := rget_vc_ann) (Eq.mpr (rget_vc (U v) lo sz w _) ?_)
  refine ⟨fun n s w' => Ext w w' ∧ ∃ k : Nat, s.2.1 = k ∧ n + k = sz.toNat ∧ s.1 = U (if fitsI lo sz = true then Gk v lo.toNat k else 0#64), ⟨sz.toNat, fun w1 h1 => ⟨h1, 0, rfl, rfl, by rw [Gk_zero]; simp; rfl⟩⟩, ?_⟩
  rintro n ⟨x, j, u⟩ w1 ⟨hw, k, hk, hn, hx⟩
  simp only at hk hx
  subst hk; subst hx
  dsimp only
  refine ⟨fun _ => trivial, brP_intro (fun h => ?_) (fun h => ?_)⟩
  · obtain ⟨hf, h1, h2, h3, h4⟩ := upto k h
    rw [if_pos hf, h3, B_U]
    refine ⟨⟨rfl, by omega⟩, brP_intro (fun hb => ⟨by omega, fun w3 hw3 => ⟨n - 1, by omega, hw.trans hw3, k + 1, h4, by omega, ?_⟩⟩) (fun hb => fun w3 hw3 => ⟨n - 1, by omega, hw.trans hw3, k + 1, h4, by omega, ?_⟩)⟩
    · show addI .u64 _ _ = _
      rw [addI_U, if_pos hf, Int.toNat_natCast, Gk_one h1 (by rw [Int.toNat_natCast] at hb; exact hb)]
    · show U _ = _
      rw [if_pos hf, Gk_none h1 (by rw [Int.toNat_natCast] at hb; exact hb)]
  · intro w2 h2
    refine ⟨?_, hw.trans h2⟩
    by_cases hf : fitsI lo sz = true
    · rw [if_pos hf, getB_Gk hf, upto_end (by omega) h hf]
    · rw [if_neg hf, getB_none (by simpa using hf)]
noncomputable def eRGet : Entry Tryz.prog where
  f := 109
  fn l := match l with
    | [.int .u64 v, .int .i64 lo, .int .i64 sz] => some (U (B v) = v, .int .u64 (U (getB (B v) lo sz)))
    | _ => none
  ok args pre v h hp w := by
    split at h
    · rename_i v lo sz
      cases h
      have := entry_of (rget_ok (B v) lo sz w)
      rw [hp] at this; exact this
    · cases h
noncomputable def C2 : Cfg Tryz.prog := { C0 with tab := [eFits, eIs, eBit, eOne, eMask, eRGet] }
theorem get_vc (v low size : Int) (w : World) (Post : Int → World → Prop) : (rxFn C2 (fun _ => []) 135 [.int .u64 v, .int .i64 low, .int .i64 size] w Post) = (
 True ∧ 0 ≤ maxI 0 (minI low 63) ∧ EnP w fun (w1 : World) => Post (shrI IntKind.u64 (andI IntKind.u64 v (U (maskB low size))) (maxI 0 (minI low 63))) w1) := by kernel_rfl
theorem put_vc (v low size x : Int) (w : World) (Post : Int → World → Prop) : (rxFn C2 (fun _ => []) 137 [.int .u64 v, .int .i64 low, .int .i64 size, .int .u64 x] w Post) = (
 True ∧ brP (U (maskB low size) == 0) (EnP w fun (w1 : World) => Post v w1) (0 ≤ low ∧ EnP w fun (w1 : World) => Post (orI IntKind.u64 (andNotI IntKind.u64 v (U (maskB low size))) (andI IntKind.u64 (shlI IntKind.u64 x low) (U (maskB low size)))) w1)) := by kernel_rfl
theorem get_ok (v : BitVec 64) (lo sz : Int) (w : World) : CallsR Tryz.prog 135 (.el (.one (.int .u64))) [.int .u64 (U v), .int .i64 lo, .int .i64 sz] w (fun x w' => x = U (getB v lo sz) ∧ Ext w w') := by
  refine rxFn_ok (C := C2) (ann := fun _ => []) (Eq.mpr (get_vc (U v) lo sz w _) ⟨trivial, by unfold maxI; split <;> omega, fun w1 h1 => ⟨?_, h1⟩⟩)
  rw [andI_U, shrI_U]; rfl
theorem put_ok (v : BitVec 64) (lo sz : Int) (x : BitVec 64) (w : World) : CallsR Tryz.prog 137 (.el (.one (.int .u64))) [.int .u64 (U v), .int .i64 lo, .int .i64 sz, .int .u64 (U x)] w (fun y w' => y = U (putB v lo sz x) ∧ Ext w w') := by
  refine rxFn_ok (C := C2) (ann := fun _ => []) (Eq.mpr (put_vc (U v) lo sz (U x) w _) ⟨trivial, ?_⟩)
  have hz : (U (maskB lo sz) == 0) = decide (maskB lo sz = 0#64) := by
    have : (U (maskB lo sz) = 0) ↔ maskB lo sz = 0#64 := by rw [show (0 : Int) = U 0#64 from rfl, U_inj]
    by_cases h : maskB lo sz = 0#64
    · rw [this.2 h, h]; rfl
    · have h' : ¬ U (maskB lo sz) = 0 := fun e => h (this.1 e)
      simp [h, h']
  rw [hz]
  refine brP_intro (fun h => fun w1 h1 => ⟨?_, h1⟩) (fun h => ?_)
  · simp only [decide_eq_true_eq] at h
    unfold putB; rw [if_pos h]
  · simp only [decide_eq_false_iff_not] at h
    have hf : fitsI lo sz = true := by
      cases hf : fitsI lo sz with
      | true => rfl
      | false => exact absurd (maskB_none hf) h
    refine ⟨(fitsI_iff.1 hf).1, fun w1 h1 => ⟨?_, h1⟩⟩
    rw [andNotI_U, shlI_U, andI_U, orI_U]
    unfold putB; rw [if_neg h]
noncomputable def eGet : Entry Tryz.prog where
  f := 135
  fn l := match l with
    | [.int .u64 v, .int .i64 lo, .int .i64 sz] => some (U (B v) = v, .int .u64 (U (getB (B v) lo sz)))
    | _ => none
  ok args pre v h hp w := by
    split at h
    · rename_i v lo sz
      cases h
      have := entry_of (get_ok (B v) lo sz w)
      rw [hp] at this; exact this
    · cases h
noncomputable def ePut : Entry Tryz.prog where
  f := 137
  fn l := match l with
    | [.int .u64 v, .int .i64 lo, .int .i64 sz, .int .u64 x] => some (U (B v) = v ∧ U (B x) = x, .int .u64 (U (putB (B v) lo sz (B x))))
    | _ => none
  ok args pre v h hp w := by
    split at h
    · rename_i v lo sz x
      cases h
      have := entry_of (put_ok (B v) lo sz (B x) w)
      rw [hp.1, hp.2] at this; exact this
    · cases h
noncomputable def C3 : Cfg Tryz.prog := { C0 with tab := [eFits, eIs, eBit, eOne, eMask, eRGet, eGet, ePut] }
end Go.Proofs.YtkldededdgpmbaaGreat
/-! The places of the ones of a word. -/
namespace Go.Proofs.YtkldededdgpmbaaGreat
set_option linter.unusedSimpArgs false
set_option linter.unusedVariables false
set_option maxRecDepth 100000
def remL (b : BitVec 64) (i : Nat) : List Nat := (List.range' i (64 - i)).filter fun j => b.getLsbD j
def onesL (b : BitVec 64) : List Nat := remL b 0
theorem remL_step {b : BitVec 64} {i : Nat} (h : i < 64) : remL b i = if b.getLsbD i = true then i :: remL b (i + 1) else remL b (i + 1) := by
  unfold remL
  rw [show 64 - i = (64 - (i + 1)) + 1 by omega, List.range'_succ, List.filter_cons]
theorem remL_end {b : BitVec 64} {i : Nat} (h : b >>> i = 0#64) : remL b i = [] := by
  unfold remL
  rw [List.filter_eq_nil_iff]
  intro j hj
  rw [List.mem_range'_1] at hj
  have := congrArg (fun c => c.getLsbD (j - i)) h
  simp only [BitVec.getLsbD_ushiftRight, BitVec.getLsbD_zero] at this
  rw [show i + (j - i) = j by omega] at this
  simp [this]
theorem remL_64 (b : BitVec 64) : remL b 64 = [] := rfl
theorem remL_lt {b : BitVec 64} {i : Nat} (h : b >>> i ≠ 0#64) : i < 64 := by
  apply Nat.lt_of_not_le
  intro hi
  exact h (BitVec.ushiftRight_eq_zero hi)
theorem mem_onesL {b : BitVec 64} {j : Nat} : j ∈ onesL b ↔ b.getLsbD j = true := by
  unfold onesL remL
  rw [List.mem_filter, List.mem_range'_1]
  constructor
  · intro h; exact h.2
  · intro h; exact ⟨⟨by omega, by have := BitVec.lt_of_getLsbD h; omega⟩, h⟩
theorem onesL_sorted (b : BitVec 64) : (onesL b).Pairwise (· < ·) := by
  unfold onesL remL
  exact List.Pairwise.filter _ (List.pairwise_lt_range' (s := 0) (n := 64))
theorem onesL_len (b : BitVec 64) : (onesL b).length ≤ 64 := by
  unfold onesL remL
  have := List.length_filter_le (fun j => b.getLsbD j) (List.range' 0 (64 - 0))
  simp at this
  simpa using this
theorem filter_add {α : Type} (p q : α → Bool) : ∀ l : List α, (l.filter fun j => p j || q j).length + (l.filter fun j => p j && q j).length = (l.filter p).length + (l.filter q).length
  | [] => rfl
  | x :: r => by
    have ih := filter_add p q r
    simp only [List.filter_cons]
    cases p x <;> cases q x <;> simp <;> omega
theorem onesL_add (a b : BitVec 64) : (onesL (a ||| b)).length + (onesL (a &&& b)).length = (onesL a).length + (onesL b).length := by
  unfold onesL remL
  simp only [BitVec.getLsbD_or, BitVec.getLsbD_and]
  exact filter_add _ _ _
theorem filter_range' (lo n : Nat) (h : lo + n ≤ 64) : ((List.range' 0 64).filter fun j => decide (lo ≤ j) && decide (j < lo + n)) = List.range' lo n := by
  have e : List.range' 0 64 = List.range' 0 lo ++ (List.range' lo n ++ List.range' (lo + n) (64 - (lo + n))) := by
    rw [List.range'_append_1, ]
    rw [show n + (64 - (lo + n)) = 64 - lo by omega]
    have := List.range'_append_1 (s := 0) (m := lo) (n := 64 - lo)
    rw [Nat.zero_add] at this
    rw [this]; congr 1; omega
  rw [e, List.filter_append, List.filter_append]
  rw [List.filter_eq_nil_iff.2, List.filter_eq_self.2, List.filter_eq_nil_iff.2]
  · simp
  · intro j hj; rw [List.mem_range'_1] at hj; simp; omega
  · intro j hj; rw [List.mem_range'_1] at hj; simp; omega
  · intro j hj; rw [List.mem_range'_1] at hj; simp; omega
end Go.Proofs.YtkldededdgpmbaaGreat
namespace Go.Proofs.YtkldededdgpmbaaGreat
set_option linter.unusedSimpArgs false
set_option linter.unusedVariables false
set_option maxRecDepth 100000
open Go.RX
def pack_vc_ann : Nat → Slots := (fun | 4 => [(3, Go.RX.El.one (Go.RX.Sc.int Go.IntKind.u64)), (4, Go.RX.El.one (Go.RX.Sc.int Go.IntKind.i64)), (9, Go.RX.El.one (Go.RX.Sc.int Go.IntKind.i64))] | _ => [])
theorem pack_vc (p : Option Addr) (n c : Nat) (w : World) (Post : Int → World → Prop) : (rxFn C3 pack_vc_ann 112 [.slice p n c] w Post) = (
 ∃ (I : Nat → Int × Int × Int × Unit → World → Prop),
  (∃ (n : Nat), ∀ (w1 : World), Ext w w1 → I n (0, 0, 0, Unit.unit) w1) ∧
   ∀ (n_1 : Nat) (s : Int × Int × Int × Unit) (w1 : World),
    I n_1 s w1 →
     brP (decide (s.snd.snd.fst < (↑n : Int)))
      ((p.isSome = true ∧ 0 ≤ s.snd.snd.fst ∧ s.snd.snd.fst < (↑n : Int)) ∧
       LdP w1 none (addP p (Int.toNat s.snd.snd.fst * 2)) (El.agg [Sc.int IntKind.u64, Sc.int IntKind.i64]) fun (x : Int × Int × Unit) =>
        AlP w1 { toList := [Value.int IntKind.u64 0, Value.int IntKind.i64 0] } 176 fun (b : Nat) (w2 : World) =>
         StP w2 (some { block := b, off := 0 }) [Value.int IntKind.u64 x.fst, Value.int IntKind.i64 x.snd.fst] fun (w2 : World) =>
          true = true ∧
           LdP w2 none (addP (some { block := b, off := 0 }) 1) (El.one (Sc.int IntKind.i64)) fun (x : Int) =>
            True ∧
             brP (!fitsI s.snd.fst x) (EnP w2 fun (w1 : World) => Post 0 w1)
              (true = true ∧
               LdP w2 none (addP (some { block := b, off := 0 }) 1) (El.one (Sc.int IntKind.i64)) fun (x : Int) =>
                true = true ∧
                 LdP w2 none (addP (some { block := b, off := 0 }) 0) (El.one (Sc.int IntKind.u64)) fun (x_1 : Int) =>
                  (U (B s.fst) = s.fst ∧ U (B x_1) = x_1) ∧
                   true = true ∧
                    LdP w2 none (addP (some { block := b, off := 0 }) 1) (El.one (Sc.int IntKind.i64)) fun (x_2 : Int) =>
                     ∀ (w3 : World), Ext w2 w3 → ∃ (n' : Nat), n' < n_1 ∧ I n' (U (putB (B s.fst) s.snd.fst x (B x_1)), addI IntKind.i64 s.snd.fst x_2, addI IntKind.i64 s.snd.snd.fst 1, Unit.unit) w3))
      (EnP w1 fun (w1 : World) => Post s.fst w1)) := by kernel_rfl
def split_vc_ann : Nat → Slots := (fun | 4 => [(5, Go.RX.El.one Go.RX.Sc.slice), (6, Go.RX.El.one (Go.RX.Sc.int Go.IntKind.i64)), (11, Go.RX.El.one (Go.RX.Sc.int Go.IntKind.i64))] | _ => [])
theorem split_vc (v : Int) (p : Option Addr) (n c : Nat) (w : World) (Post : Option Addr × Nat × Nat → World → Prop) : (rxFn C3 split_vc_ann 119 [.int .u64 v, .slice p n c] w Post) = (
 ∃ (I : Nat → (Option Addr × Nat × Nat) × Int × Int × Unit → World → Prop),
  (∃ (n : Nat), ∀ (w1 : World), Ext w w1 → I n ((none, 0, 0), 0, 0, Unit.unit) w1) ∧
   ∀ (n_1 : Nat) (s : (Option Addr × Nat × Nat) × Int × Int × Unit) (w1 : World),
    I n_1 s w1 →
     brP (decide (s.snd.snd.fst < (↑n : Int)))
      ((p.isSome = true ∧ 0 ≤ s.snd.snd.fst ∧ s.snd.snd.fst < (↑n : Int)) ∧
       LdP w1 none (addP p (Int.toNat s.snd.snd.fst * 1)) (El.one (Sc.int IntKind.i64)) fun (x : Int) =>
        True ∧
         brP (!fitsI s.snd.fst x) (EnP w1 fun (w1 : World) => Post (none, 0, 0) w1)
          (U (B v) = v ∧
           AlP w1 { toList := [Value.int IntKind.u64 (U (getB (B v) s.snd.fst x))] } 59 fun (b : Nat) (w2 : World) =>
            ∀ (w1 : World),
             Ext w2 w1 →
              apR w1 59 1 8 { toList := [Value.int IntKind.u64 0] } (s.fst.fst, s.fst.snd.fst, s.fst.snd.snd) (some { block := b, off := 0 }, 1, 1) fun (r : Option Addr × Nat × Nat) (w2 : World) =>
               ∀ (w3 : World), Ext w2 w3 → ∃ (n' : Nat), n' < n_1 ∧ I n' ((r.fst, r.snd.fst, r.snd.snd), addI IntKind.i64 s.snd.fst x, addI IntKind.i64 s.snd.snd.fst 1, Unit.unit) w3))
      (EnP w1 fun (w1 : World) => Post (s.fst.fst, s.fst.snd.fst, s.fst.snd.snd) w1)) := by kernel_rfl
def ints_vc_ann : Nat → Slots := (fun | 4 => [(5, Go.RX.El.one (Go.RX.Sc.int Go.IntKind.i64))] | _ => [])
theorem ints_vc (p q : Option Addr) (n c m d : Nat) (w : World) (Post : Bool → World → Prop) : (rxFn C3 ints_vc_ann 14 [.slice p n c, .slice q m d] w Post) = (
 brP ((↑n : Int) != (↑m : Int)) (EnP w fun (w1 : World) => Post false w1)
  (∃ (I : Nat → Int × Unit → World → Prop),
   (∃ (n : Nat), ∀ (w1 : World), Ext w w1 → I n (0, Unit.unit) w1) ∧
    ∀ (n_1 : Nat) (s : Int × Unit) (w1 : World),
     I n_1 s w1 →
      brP (decide (s.fst < (↑n : Int)))
       ((p.isSome = true ∧ 0 ≤ s.fst ∧ s.fst < (↑n : Int)) ∧
        LdP w1 none (addP p (Int.toNat s.fst * 1)) (El.one (Sc.int IntKind.i64)) fun (x : Int) =>
         (q.isSome = true ∧ 0 ≤ s.fst ∧ s.fst < (↑m : Int)) ∧
          LdP w1 none (addP q (Int.toNat s.fst * 1)) (El.one (Sc.int IntKind.i64)) fun (x_1 : Int) =>
           brP (x != x_1) (EnP w1 fun (w1 : World) => Post false w1) (∀ (w3 : World), Ext w1 w3 → ∃ (n' : Nat), n' < n_1 ∧ I n' (addI IntKind.i64 s.fst 1, Unit.unit) w3))
       (EnP w1 fun (w1 : World) => Post true w1))) := by kernel_rfl
def words_vc_ann : Nat → Slots := (fun | 4 => [(5, Go.RX.El.one (Go.RX.Sc.int Go.IntKind.i64))] | _ => [])
theorem words_vc (p q : Option Addr) (n c m d : Nat) (w : World) (Post : Bool → World → Prop) : (rxFn C3 words_vc_ann 30 [.slice p n c, .slice q m d] w Post) = (
 brP ((↑n : Int) != (↑m : Int)) (EnP w fun (w1 : World) => Post false w1)
  (∃ (I : Nat → Int × Unit → World → Prop),
   (∃ (n : Nat), ∀ (w1 : World), Ext w w1 → I n (0, Unit.unit) w1) ∧
    ∀ (n_1 : Nat) (s : Int × Unit) (w1 : World),
     I n_1 s w1 →
      brP (decide (s.fst < (↑n : Int)))
       ((p.isSome = true ∧ 0 ≤ s.fst ∧ s.fst < (↑n : Int)) ∧
        LdP w1 none (addP p (Int.toNat s.fst * 1)) (El.one (Sc.int IntKind.u64)) fun (x : Int) =>
         (q.isSome = true ∧ 0 ≤ s.fst ∧ s.fst < (↑m : Int)) ∧
          LdP w1 none (addP q (Int.toNat s.fst * 1)) (El.one (Sc.int IntKind.u64)) fun (x_1 : Int) =>
           brP (x != x_1) (EnP w1 fun (w1 : World) => Post false w1) (∀ (w3 : World), Ext w1 w3 → ∃ (n' : Nat), n' < n_1 ∧ I n' (addI IntKind.i64 s.fst 1, Unit.unit) w3))
       (EnP w1 fun (w1 : World) => Post true w1))) := by kernel_rfl
abbrev eI : El := .one (.int .i64)
abbrev eU : El := .one (.int .u64)
abbrev eP : El := .agg [.int .u64, .int .i64]

theorem ints_ok {p q : Option Addr} {n c m d : Nat} {w : World} {xs ys : List Int} (hx : Sl w eI p xs) (hn : n = xs.length) (hy : Sl w eI q ys) (hm : m = ys.length) (hb : n < 4611686018427387904) :
    CallsR Tryz.prog 14 (.el (.one .bool)) [.slice p n c, .slice q m d] w (fun b w' => b = decide (xs = ys) ∧ Ext w w') := by
  refine rxFn_ok (C := C3) (ann := ints_vc_ann) (Eq.mpr (ints_vc p q n c m d w _) ?_)
  refine brP_intro (fun h w1 h1 => ⟨?_, h1⟩) (fun h => ?_)
  · have : xs ≠ ys := fun e => by subst e; simp [hn, hm] at h
    simp [this]
  · have hnm : n = m := by simp at h; omega
    refine ⟨fun k s w' => Ext w w' ∧ ∃ i : Nat, s.1 = i ∧ k + i = n ∧ ∀ j, j < i → xs[j]? = ys[j]?, ⟨n, fun w1 h1 => ⟨h1, 0, rfl, rfl, fun j hj => absurd hj (by omega)⟩⟩, ?_⟩
    rintro k ⟨i', u⟩ w1 ⟨hw, i, hi, hk, hj⟩
    simp only at hi
    subst hi
    dsimp only
    refine brP_intro (fun h => ?_) (fun h => fun w2 h2 => ⟨?_, hw.trans h2⟩)
    · simp only [decide_eq_true_eq] at h
      have h1 : i < xs.length := by omega
      have h2 : i < ys.length := by omega
      have a1 := (hx.ext hw) i xs[i] (List.getElem?_eq_getElem h1)
      have a2 := (hy.ext hw) i ys[i] (List.getElem?_eq_getElem h2)
      refine ⟨⟨a1.1, by omega, by omega⟩, xs[i], a1.2, ⟨a2.1, by omega, by omega⟩, ys[i], a2.2, brP_intro (fun hne w2 hw2 => ⟨?_, hw.trans hw2⟩) (fun he w2 hw2 => ⟨k - 1, by omega, hw.trans hw2, i + 1, ?_, by omega, ?_⟩)⟩
      · have : xs ≠ ys := fun e => by subst e; simp at hne
        simp [this]
      · show addI _ _ _ = _
        rw [addI_i64 (by omega) (by omega)]; rfl
      · intro j hj'
        by_cases e : j = i
        · subst e
          rw [List.getElem?_eq_getElem h1, List.getElem?_eq_getElem h2]
          simpa using he
        · exact hj j (by omega)
    · simp only [decide_eq_false_iff_not] at h
      have : xs = ys := by
        apply List.ext_getElem?
        intro j
        by_cases e : j < i
        · exact hj j e
        · rw [List.getElem?_eq_none (by omega), List.getElem?_eq_none (by omega)]
      simp [this]

theorem words_ok {p q : Option Addr} {n c m d : Nat} {w : World} {xs ys : List Int} (hx : Sl w eU p xs) (hn : n = xs.length) (hy : Sl w eU q ys) (hm : m = ys.length) (hb : n < 4611686018427387904) :
    CallsR Tryz.prog 30 (.el (.one .bool)) [.slice p n c, .slice q m d] w (fun b w' => b = decide (xs = ys) ∧ Ext w w') := by
  refine rxFn_ok (C := C3) (ann := words_vc_ann) (Eq.mpr (words_vc p q n c m d w _) ?_)
  refine brP_intro (fun h w1 h1 => ⟨?_, h1⟩) (fun h => ?_)
  · have : xs ≠ ys := fun e => by subst e; simp [hn, hm] at h
    simp [this]
  · have hnm : n = m := by simp at h; omega
    refine ⟨fun k s w' => Ext w w' ∧ ∃ i : Nat, s.1 = i ∧ k + i = n ∧ ∀ j, j < i → xs[j]? = ys[j]?, ⟨n, fun w1 h1 => ⟨h1, 0, rfl, rfl, fun j hj => absurd hj (by omega)⟩⟩, ?_⟩
    rintro k ⟨i', u⟩ w1 ⟨hw, i, hi, hk, hj⟩
    simp only at hi
    subst hi
    dsimp only
    refine brP_intro (fun h => ?_) (fun h => fun w2 h2 => ⟨?_, hw.trans h2⟩)
    · simp only [decide_eq_true_eq] at h
      have h1 : i < xs.length := by omega
      have h2 : i < ys.length := by omega
      have a1 := (hx.ext hw) i xs[i] (List.getElem?_eq_getElem h1)
      have a2 := (hy.ext hw) i ys[i] (List.getElem?_eq_getElem h2)
      refine ⟨⟨a1.1, by omega, by omega⟩, xs[i], a1.2, ⟨a2.1, by omega, by omega⟩, ys[i], a2.2, brP_intro (fun hne w2 hw2 => ⟨?_, hw.trans hw2⟩) (fun he w2 hw2 => ⟨k - 1, by omega, hw.trans hw2, i + 1, ?_, by omega, ?_⟩)⟩
      · have : xs ≠ ys := fun e => by subst e; simp at hne
        simp [this]
      · show addI _ _ _ = _
        rw [addI_i64 (by omega) (by omega)]; rfl
      · intro j hj'
        by_cases e : j = i
        · subst e
          rw [List.getElem?_eq_getElem h1, List.getElem?_eq_getElem h2]
          simpa using he
        · exact hj j (by omega)
    · simp only [decide_eq_false_iff_not] at h
      have : xs = ys := by
        apply List.ext_getElem?
        intro j
        by_cases e : j < i
        · exact hj j e
        · rw [List.getElem?_eq_none (by omega), List.getElem?_eq_none (by omega)]
      simp [this]

/-- Fields as a word. -/
def packB : BitVec 64 → Int → List (BitVec 64 × Int) → BitVec 64
  | w, _, [] => w
  | w, lo, (v, sz) :: r => if fitsI lo sz = true then packB (putB w lo sz v) (lo + sz) r else 0#64
def embP (l : List (BitVec 64 × Int)) : List (Int × Int × Unit) := l.map fun x => (U x.1, x.2, ())
theorem drop_get {α : Type} {l : List α} {i : Nat} (h : i < l.length) : l.drop i = l[i] :: l.drop (i + 1) := List.drop_eq_getElem_cons h
theorem pack_ok {p : Option Addr} {n c : Nat} {w : World} {xs : List (BitVec 64 × Int)} (hx : Sl w eP p (embP xs)) (hn : n = xs.length) (hb : n < 4611686018427387904) :
    CallsR Tryz.prog 112 (.el eU) [.slice p n c] w (fun x w' => x = U (packB 0#64 0 xs) ∧ Ext w w') := by
  refine rxFn_ok (C := C3) (ann := pack_vc_ann) (Eq.mpr (pack_vc p n c w _) ?_)
  refine ⟨fun k s w' => Ext w w' ∧ ∃ (i : Nat) (b : BitVec 64), s.1 = U b ∧ s.2.2.1 = i ∧ k + i = n ∧ 0 ≤ s.2.1 ∧ s.2.1 ≤ 64 ∧ packB b s.2.1 (xs.drop i) = packB 0#64 0 xs, ⟨n, fun w1 h1 => ⟨h1, 0, 0#64, rfl, rfl, rfl, by decide, by decide, rfl⟩⟩, ?_⟩
  rintro k ⟨x, lo, i', u⟩ w1 ⟨hw, i, b, h1, h2, hk, hlo, hhi, hp⟩
  simp only at h1 h2 hlo hhi hp
  subst h1; subst h2
  dsimp only
  refine brP_intro (fun h => ?_) (fun h => fun w2 h2 => ⟨?_, hw.trans h2⟩)
  · simp only [decide_eq_true_eq] at h
    have hi : i < xs.length := by omega
    have hg : (embP xs)[i]? = some (U xs[i].1, xs[i].2, ()) := by simp [embP, hi]
    have a1 := (hx.ext hw) i _ hg
    rw [drop_get hi] at hp
    refine ⟨⟨a1.1, by omega, by omega⟩, _, a1.2, fun wA hA wB hB => ?_⟩
    have blk : Blk wB wA.heap.size [.int .u64 0, .int .i64 0] := (Blk.new wA _ _).ext hB
    have hwA : Ext w wA := hw.trans hA
    have hwB : Ext w wB := (hwA.allocd _).trans hB
    have blk' := blk.put (o := 0) [Value.int .u64 (U xs[i].1), Value.int .i64 xs[i].2] (by simp)
    simp at blk'
    have hwP : Ext w (putP wB (some ⟨wA.heap.size, 0, none⟩) [Value.int .u64 (U xs[i].1), Value.int .i64 xs[i].2]) := hwB.putP (a := ⟨wA.heap.size, 0, none⟩) hwA.size _
    have r0 : rdAt (putP wB (some ⟨wA.heap.size, 0, none⟩) [Value.int .u64 (U xs[i].1), Value.int .i64 xs[i].2]) (addP (some ⟨wA.heap.size, 0, none⟩) 0) (.one (.int .u64)) (U xs[i].1) := by
      rw [addP_B]; exact blk'.rd1 rfl
    have r1 : rdAt (putP wB (some ⟨wA.heap.size, 0, none⟩) [Value.int .u64 (U xs[i].1), Value.int .i64 xs[i].2]) (addP (some ⟨wA.heap.size, 0, none⟩) 1) (.one (.int .i64)) xs[i].2 := by
      rw [addP_B]; exact blk'.rd1 rfl
    refine ⟨⟨rfl, blk.st (by simp)⟩, rfl, _, r1, trivial, brP_intro (fun hf w2 hw2 => ⟨?_, hwP.trans hw2⟩) (fun hf => ⟨rfl, _, r1, rfl, _, r0, ⟨by rw [B_U], by rw [B_U]⟩, rfl, _, r1, fun w3 hw3 => ⟨k - 1, by omega, hwP.trans hw3, i + 1, putB b lo xs[i].2 xs[i].1, ?_, ?_, by omega, ?_, ?_, ?_⟩⟩)⟩
    · have hf' : fitsI lo xs[i].2 = false := by simpa using hf
      rw [← hp]
      simp only [packB, hf']; rfl
    all_goals
      have hf' : fitsI lo xs[i].2 = true := by simpa using hf
      have h3 := fitsI_iff.1 hf'
    · show U _ = _
      rw [B_U, B_U]
    · show addI _ _ _ = _
      rw [addI_i64 (by omega) (by omega)]; rfl
    · show 0 ≤ addI .i64 lo _
      rw [addI_i64 (by omega) (by omega)]; omega
    · show addI .i64 lo _ ≤ 64
      rw [addI_i64 (by omega) (by omega)]; omega
    · show packB _ (addI .i64 lo _) _ = _
      rw [addI_i64 (by omega) (by omega), ← hp]
      simp only [packB, hf', if_true]
  · simp only [decide_eq_false_iff_not] at h
    rw [List.drop_eq_nil_of_le (by omega)] at hp
    rw [← hp]; rfl

/-- A word's fields. -/
def splitB (w : BitVec 64) : Int → List Int → Option (List (BitVec 64))
  | _, [] => some []
  | lo, sz :: r => if fitsI lo sz = true then (splitB w (lo + sz) r).map (getB w lo sz :: ·) else none
def embU (l : List (BitVec 64)) : List Int := l.map U
theorem split_ok {v : BitVec 64} {p : Option Addr} {n c : Nat} {w : World} {xs : List Int} (hx : Sl w eI p xs) (hn : n = xs.length) (hb : n ≤ 1000) :
    CallsR Tryz.prog 119 (.el (.one .slice)) [.int .u64 (U v), .slice p n c] w (fun r w' => Own w w' eU r (embU ((splitB v 0 xs).getD [])) ∧ Ext w w') := by
  refine rxFn_ok (C := C3) (ann := split_vc_ann) (Eq.mpr (split_vc (U v) p n c w _) ?_)
  refine ⟨fun k s w' => Ext w w' ∧ ∃ (i : Nat) (acc : List (BitVec 64)), s.2.2.1 = i ∧ k + i = n ∧ 0 ≤ s.2.1 ∧ s.2.1 ≤ 64 ∧ acc.length = i ∧ Own w w' eU s.1 (embU acc) ∧ splitB v 0 xs = (splitB v s.2.1 (xs.drop i)).map (acc ++ ·), ⟨n, fun w1 h1 => ⟨h1, 0, [], rfl, rfl, by decide, by decide, rfl, Own.nil w w1 eU, by simp⟩⟩, ?_⟩
  rintro k ⟨s, lo, i', u⟩ w1 ⟨hw, i, acc, h2, hk, hlo, hhi, hal, ho, hp⟩
  simp only at h2 ho hlo hhi hp
  subst h2
  dsimp only
  refine brP_intro (fun h => ?_) (fun h => fun w2 h2 => ⟨?_, hw.trans h2⟩)
  · simp only [decide_eq_true_eq] at h
    have hi : i < xs.length := by omega
    have a1 := (hx.ext hw) i _ (List.getElem?_eq_getElem hi)
    have i1 : p.isSome = true ∧ (0 : Int) ≤ i ∧ (i : Int) < n := ⟨a1.1, by omega, by omega⟩
    rw [drop_get hi] at hp
    refine ⟨i1, _, a1.2, trivial, brP_intro (fun hf w2 hw2 => ⟨?_, hw.trans hw2⟩) (fun hf => ⟨by rw [B_U], fun wA hA wB hB => ?_⟩)⟩
    · have hf' : fitsI lo xs[i] = false := by simpa using hf
      simp only [splitB, hf'] at hp
      rw [hp]
      exact Own.nil w w2 eU
    · have hf' : fitsI lo xs[i] = true := by simpa using hf
      have h3 := fitsI_iff.1 hf'
      have hl : (embU acc).length ≤ 1000 := by simp [embU]; omega
      refine own_push (e := eU) (x := U (getB (B (U v)) lo xs[i])) ho hw rfl hA hB rfl (by omega) fun s' w' ho' he' hf hs w3 hw3 => ⟨k - 1, by omega, he'.trans hw3, i + 1, acc ++ [getB v lo xs[i]], ?_, by omega, ?_, ?_, by simp [hal], ?_, ?_⟩
      · show addI _ _ _ = _
        rw [addI_i64 (by omega) (by omega)]; rfl
      · show 0 ≤ addI .i64 lo _
        rw [addI_i64 (by omega) (by omega)]; omega
      · show addI .i64 lo _ ≤ 64
        rw [addI_i64 (by omega) (by omega)]; omega
      · rw [B_U] at ho'
        have e1 : embU (acc ++ [getB v lo xs[i]]) = embU acc ++ [U (getB v lo xs[i])] := by simp [embU]
        rw [e1]
        exact ho'.ext hw3
      · show _ = (splitB v (addI .i64 lo _) _).map _
        rw [addI_i64 (by omega) (by omega), hp]
        simp only [splitB, hf', if_true, Option.map_map]
        congr 1
        funext l
        simp
  · simp only [decide_eq_false_iff_not] at h
    rw [List.drop_eq_nil_of_le (by omega)] at hp
    rw [hp]
    simp [splitB]
    exact ho.ext h2

/-- A word's ones, as numbers. -/
def embN (l : List Nat) : List Int := l.map (fun (n : Nat) => (n : Int))
end Go.Proofs.YtkldededdgpmbaaGreat
/-! What is known of the world while a function goes on: blocks and what lies in them; what has been left alone. -/
namespace Go.RX
open Go.RowKit

/-- 'w'' is 'w' with more, but for the blocks G. -/
structure Fr (G : List Nat) (w w' : World) : Prop where
  os : w'.os = w.os
  tape : w'.tape = w.tape
  output : w'.output = w.output
  size : w.heap.size ≤ w'.heap.size
  block : ∀ k, k < w.heap.size → k ∉ G → w'.heap[k]? = w.heap[k]?
theorem Fr.refl (G : List Nat) (w : World) : Fr G w w := ⟨rfl, rfl, rfl, Nat.le_refl _, fun _ _ _ => rfl⟩
theorem Fr.trans {G : List Nat} {a b c : World} (h : Fr G a b) (k : Fr G b c) : Fr G a c :=
  ⟨k.os.trans h.os, k.tape.trans h.tape, k.output.trans h.output, Nat.le_trans h.size k.size, fun j hj hn => (k.block j (Nat.lt_of_lt_of_le hj h.size) hn).trans (h.block j hj hn)⟩
theorem Fr.of_ext {G : List Nat} {w w' : World} (h : Ext w w') : Fr G w w' := ⟨h.os, h.tape, h.output, h.size, fun _ hk _ => h.block hk⟩
theorem Fr.ext {w w' : World} (h : Fr [] w w') : Ext w w' := ⟨h.os, h.tape, h.output, h.size, fun k hk => h.block k hk (by simp)⟩
theorem Fr.mono {G G' : List Nat} {w w' : World} (h : Fr G w w') (hs : ∀ x ∈ G, x ∈ G') : Fr G' w w' := ⟨h.os, h.tape, h.output, h.size, fun k hk hn => h.block k hk fun hm => hn (hs k hm)⟩
theorem Fr.blk {G : List Nat} {w w' : World} (h : Fr G w w') {b : Nat} {l : List Value} (hb : b ∉ G) (k : Blk w b l) : Blk w' b l := k.same (h.block b k.lt hb)
theorem Fr.putP {G : List Nat} {w0 w : World} (h : Fr G w0 w) {a : Addr} (ha : w0.heap.size ≤ a.block ∨ a.block ∈ G) (vs : List Value) : Fr G w0 (putP w (some a) vs) := by
  have env : ∀ (vs : List Value) (w : World) (i : Nat), (putAt w a vs i).os = w.os ∧ (putAt w a vs i).tape = w.tape ∧ (putAt w a vs i).output = w.output := by
    intro vs
    induction vs with
    | nil => intro w i; exact ⟨rfl, rfl, rfl⟩
    | cons v r ih =>
      intro w i
      have := ih (w.setCell (a.add i) v) (i + 1)
      simp only [putAt]
      exact this
  obtain ⟨e1, e2, e3⟩ := env vs w 0
  refine ⟨e1.trans h.os, e2.trans h.tape, e3.trans h.output, ?_, fun k hk hn => ?_⟩
  · show _ ≤ (putAt w a vs 0).heap.size
    rw [putAt_size]; exact h.size
  · have hne : k ≠ a.block := by
      intro e
      rcases ha with ha | ha
      · omega
      · rw [← e] at ha; exact hn ha
    exact (putAt_ne vs w a 0 k hne).trans (h.block k hk hn)

/-- What is known of a world: G may have changed since w0; L's blocks (new ones, or of G) hold what it says; D are marks of ranges over functions. -/
structure AtD (D G : List Nat) (w0 w : World) (L : List (Nat × List Value)) : Prop where
  fr : Fr G w0 w
  blk : ∀ x ∈ L, Blk w x.1 x.2
  own : ∀ x ∈ L, w0.heap.size ≤ x.1 ∨ x.1 ∈ G
  nd : (L.map (·.1)).Nodup
  mks : ∀ r ∈ D, w0.heap.size ≤ r ∧ w.heap[r]? = some (.deferred (some []))
abbrev At := AtD []
theorem At.start (G : List Nat) (w : World) : At G w w [] where
  fr := Fr.refl G w
  blk := fun x hx => by cases hx
  own := fun x hx => by cases hx
  nd := List.nodup_nil
  mks := fun x hx => by cases hx
namespace AtD
variable {D G : List Nat} {w0 w w1 : World} {L : List (Nat × List Value)}
theorem ext (H : AtD D G w0 w L) (h : Ext w w1) : AtD D G w0 w1 L :=
  ⟨H.fr.trans (.of_ext h), fun x hx => (H.blk x hx).ext h, H.own, H.nd, fun r hr => ⟨(H.mks r hr).1, h.obj (H.mks r hr).2⟩⟩
theorem all (H : AtD D [] w0 w L) : Ext w0 w := H.fr.ext
theorem get (H : AtD D G w0 w L) {i b : Nat} {l : List Value} (h : L[i]? = some (b, l)) : Blk w b l := H.blk _ (List.mem_of_getElem? h)
theorem ne (H : AtD D G w0 w L) {i j b c : Nat} {l m : List Value} (h : L[i]? = some (b, l)) (k : L[j]? = some (c, m)) (hij : i ≠ j) : b ≠ c := by
  intro e
  subst e
  have hi : i < L.length := (List.getElem?_eq_some_iff.1 h).1
  have h1 : (L.map (·.1))[i]? = some b := by rw [List.getElem?_map, h]; rfl
  have h2 : (L.map (·.1))[j]? = some b := by rw [List.getElem?_map, k]; rfl
  exact hij ((List.getElem?_inj (by simpa using hi) H.nd).1 (h1.trans h2.symm))
theorem alloc (H : AtD D G w0 w L) (cs : List Value) (t : TypeId) : AtD D G w0 (w.alloc (.cells ⟨cs⟩ t)) ((w.heap.size, cs) :: L) := by
  have H1 := H.ext (Ext.alloc w (.cells ⟨cs⟩ t))
  refine ⟨H1.fr, fun x hx => ?_, fun x hx => ?_, ?_, H1.mks⟩
  · rcases List.mem_cons.1 hx with rfl | hx
    · exact Blk.new w cs t
    · exact H1.blk x hx
  · rcases List.mem_cons.1 hx with rfl | hx
    · exact .inl H.fr.size
    · exact H1.own x hx
  · refine List.nodup_cons.2 ⟨fun hm => ?_, H.nd⟩
    obtain ⟨x, hx, e⟩ := List.mem_map.1 hm
    have := (H.blk x hx).lt
    rw [e] at this
    exact Nat.lt_irrefl _ this
/-- A new block of any kind, that is not kept in the list. -/
theorem allocO (H : AtD D G w0 w L) (o : Obj) : AtD D G w0 (w.alloc o) L := H.ext (Ext.alloc w o)
theorem blk_ne_obj {b r : Nat} {l : List Value} {o : Obj} (h : Blk w b l) (k : w.heap[r]? = some o) (ho : ∀ a t f, o ≠ .cells a t f) : b ≠ r := by
  intro e
  subst e
  obtain ⟨t, h⟩ := h
  rw [h] at k
  cases k
  exact ho _ _ _ rfl
theorem put (H : AtD D G w0 w L) (i : Nat) {b o : Nat} {l : List Value} (h : L[i]? = some (b, l)) (vs : List Value) (hn : o + vs.length ≤ l.length) :
    AtD D G w0 (putP w (some ⟨b, o, none⟩) vs) (L.set i (b, l.take o ++ (vs ++ l.drop (o + vs.length)))) := by
  have hi : i < L.length := (List.getElem?_eq_some_iff.1 h).1
  have hm : (b, l) ∈ L := List.mem_of_getElem? h
  refine ⟨H.fr.putP (a := ⟨b, o, none⟩) (H.own _ hm) vs, fun x hx => ?_, fun x hx => ?_, ?_, fun r hr => ⟨(H.mks r hr).1, ?_⟩⟩
  · obtain ⟨j, hj⟩ := List.getElem?_of_mem hx
    by_cases e : i = j
    · subst e
      rw [List.getElem?_set_self hi] at hj
      cases hj
      exact (H.get h).put vs hn
    · rw [List.getElem?_set_ne e] at hj
      have hne : x.1 ≠ b := fun e' => by
        obtain ⟨x1, x2⟩ := x
        exact H.ne hj h (fun e2 => e e2.symm) e'
      exact (H.blk x (List.mem_of_getElem? hj)).putNe (a := ⟨b, o, none⟩) hne vs
  · rcases List.mem_or_eq_of_mem_set hx with hx | rfl
    · exact H.own x hx
    · exact H.own (b, l) hm
  · have : (L.set i (b, l.take o ++ (vs ++ l.drop (o + vs.length)))).map (·.1) = L.map (·.1) := by
      apply List.ext_getElem?
      intro j
      rw [List.getElem?_map, List.getElem?_map]
      by_cases e : i = j
      · subst e; rw [List.getElem?_set_self hi, h]; rfl
      · rw [List.getElem?_set_ne e]
    rw [this]; exact H.nd
  · have hk := (H.mks r hr).2
    have hne : r ≠ b := fun e => blk_ne_obj (H.get h) hk (fun _ _ _ hc => by cases hc) e.symm
    rw [← hk]
    exact putAt_ne vs w ⟨b, o, none⟩ 0 r hne
theorem old (H : AtD D G w0 w L) {b : Nat} {l : List Value} (h : Blk w0 b l) (hb : b ∉ G) : Blk w b l := H.fr.blk hb h
/-- What is known is forgotten, or put in another order. -/
theorem sub (H : AtD D G w0 w L) {L' : List (Nat × List Value)} (h : L'.Sublist L) : AtD D G w0 w L' :=
  ⟨H.fr, fun x hx => H.blk x (h.subset hx), fun x hx => H.own x (h.subset hx), (h.map _).nodup H.nd, H.mks⟩
theorem nil (H : AtD D G w0 w L) : AtD D G w0 w [] := H.sub (List.nil_sublist _)
theorem perm (H : AtD D G w0 w L) {L' : List (Nat × List Value)} (h : L'.Perm L) : AtD D G w0 w L' :=
  ⟨H.fr, fun x hx => H.blk x (h.subset hx), fun x hx => H.own x (h.subset hx), (h.map _).nodup_iff.2 H.nd, H.mks⟩
/-- A call changed blocks G' of what is known, and nothing else. -/
theorem frame (H : AtD D G w0 w L) {G' : List Nat} {L' : List (Nat × List Value)} (h : Fr G' w w1) (hG : ∀ x ∈ G', w0.heap.size ≤ x ∨ x ∈ G) (hD : ∀ r ∈ D, r ∉ G') (hb : ∀ x ∈ L', Blk w1 x.1 x.2) (ho : ∀ x ∈ L', w0.heap.size ≤ x.1 ∨ x.1 ∈ G) (hn : (L'.map (·.1)).Nodup) : AtD D G w0 w1 L' :=
  ⟨⟨h.os.trans H.fr.os, h.tape.trans H.fr.tape, h.output.trans H.fr.output, Nat.le_trans H.fr.size h.size, fun k hk hkn => (h.block k (Nat.lt_of_lt_of_le hk H.fr.size) (fun hm => by
    rcases hG k hm with h1 | h1
    · omega
    · exact hkn h1)).trans (H.fr.block k hk hkn)⟩, hb, ho, hn, fun r hr => ⟨(H.mks r hr).1, by rw [h.block r (Array.getElem?_eq_some_iff.1 (H.mks r hr).2).1 (hD r hr)]; exact (H.mks r hr).2⟩⟩
/-- A call that changed one known block. -/
theorem mod (H : AtD D G w0 w L) (i : Nat) {b : Nat} {l l' : List Value} (hL : L[i]? = some (b, l)) (h : Fr [b] w w1) (hb : Blk w1 b l') : AtD D G w0 w1 (L.set i (b, l')) := by
  have hi : i < L.length := (List.getElem?_eq_some_iff.1 hL).1
  have hm : (b, l) ∈ L := List.mem_of_getElem? hL
  refine H.frame h (fun x hx => by rw [List.mem_singleton.1 hx]; exact H.own (b, l) hm) (fun r hr hx => ?_) (fun x hx => ?_) (fun x hx => ?_) ?_
  · rw [List.mem_singleton] at hx
    exact blk_ne_obj (H.get hL) (H.mks r hr).2 (fun _ _ _ hc => by cases hc) hx.symm
  · obtain ⟨j, hj⟩ := List.getElem?_of_mem hx
    by_cases e : i = j
    · subst e
      rw [List.getElem?_set_self hi] at hj
      cases hj
      exact hb
    · rw [List.getElem?_set_ne e] at hj
      obtain ⟨x1, x2⟩ := x
      have hne : x1 ≠ b := H.ne hj hL (fun e2 => e e2.symm)
      exact h.blk (by simpa using hne) (H.blk (x1, x2) (List.mem_of_getElem? hj))
  · rcases List.mem_or_eq_of_mem_set hx with hx | rfl
    · exact H.own x hx
    · exact H.own (b, l) hm
  · have : (L.set i (b, l')).map (·.1) = L.map (·.1) := by
      apply List.ext_getElem?
      intro j
      rw [List.getElem?_map, List.getElem?_map]
      by_cases e : i = j
      · subst e; rw [List.getElem?_set_self hi, hL]; rfl
      · rw [List.getElem?_set_ne e]
    rw [this]; exact H.nd
/-- What is known, from here on. -/
theorem again (H : AtD D G w0 w L) : At (L.map (·.1)) w w L where
  fr := Fr.refl _ w
  blk := H.blk
  own := fun x hx => .inr (List.mem_map.2 ⟨x, hx, rfl⟩)
  nd := H.nd
  mks := fun x hx => by cases hx
/-- What came of it, for who began before. -/
theorem join {G' : List Nat} {L' : List (Nat × List Value)} (H : AtD D G w0 w L) (hG : ∀ x ∈ G', x ∈ L.map (·.1)) (K : At G' w w1 L') : AtD D G w0 w1 L' := by
  have hown : ∀ x ∈ G', w0.heap.size ≤ x ∨ x ∈ G := fun x hx => by
    obtain ⟨y, hy, e⟩ := List.mem_map.1 (hG x hx)
    rw [← e]; exact H.own y hy
  refine H.frame K.fr hown (fun r hr hx => ?_) K.blk (fun x hx => ?_) K.nd
  · obtain ⟨y, hy, e⟩ := List.mem_map.1 (hG r hx)
    exact blk_ne_obj (H.blk y hy) (H.mks r hr).2 (fun _ _ _ hc => by cases hc) e
  · rcases K.own x hx with h1 | h1
    · exact .inl (Nat.le_trans H.fr.size h1)
    · exact hown _ h1
/-- A record of a loop is changed. -/
theorem putObj (H : AtD D G w0 w L) {l : Nat} (hl : w0.heap.size ≤ l) {o o' : Obj} (ho : w.heap[l]? = some o) (hc : ∀ a t f, o ≠ .cells a t f) (hd : l ∉ D) : AtD D G w0 (w.putObj l o') L := by
  refine ⟨⟨H.fr.os, H.fr.tape, H.fr.output, by rw [putObj_size]; exact H.fr.size, fun k hk hn => ?_⟩, fun x hx => (H.blk x hx).putObj (blk_ne_obj (H.blk x hx) ho hc) _, H.own, H.nd, fun r hr => ⟨(H.mks r hr).1, ?_⟩⟩
  · rw [putObj_ne (by omega)]; exact H.fr.block k hk hn
  · rw [putObj_ne (fun e => hd (by rw [← e]; exact hr))]; exact (H.mks r hr).2
end AtD

/-- What lies in a row of cells from o on. -/
def elAt (l : List Value) (o : Nat) : (el : El) → Option el.T
  | .one s => match l[o]? with
    | some v => s.proj v
    | none => none
  | .agg ss => scsProj ss ((l.drop o).take ss.length)
theorem elAt_rd {w : World} {b o : Nat} {l : List Value} (h : Blk w b l) {el : El} {x : el.T} (hx : elAt l o el = some x) : rdAt w (some ⟨b, o, none⟩) el x := by
  cases el with
  | one s =>
    simp only [elAt] at hx
    split at hx
    · rename_i v hv
      exact h.rd1 (by rw [hv, Sc.proj_emb hx])
    · cases hx
  | agg ss =>
    simp only [elAt] at hx
    have e := scsProj_emb hx
    refine h.rdA fun i hi => ?_
    rw [e, List.getElem?_take_of_lt hi, List.getElem?_drop]

theorem LdP.of {w : World} {g : Option Bool} {p : Option Addr} {el : El} {K : el.T → Prop} (x : el.T) (h : rdAt w p el x) (k : K x) : LdP w g p el K :=
  ⟨x, by cases g <;> first | exact h | exact fun _ => h, k⟩
theorem brP_pos {b : Bool} {x y : Prop} (e : b = true) (h : x) : brP b x y := brP_intro (fun _ => h) (fun c => by rw [e] at c; cases c)
theorem brP_neg {b : Bool} {x y : Prop} (e : b = false) (h : y) : brP b x y := brP_intro (fun c => by rw [e] at c; cases c) (fun _ => h)
section
variable {D G : List Nat} {w0 w : World} {L : List (Nat × List Value)}
theorem LdP.at (i : Nat) (H : AtD D G w0 w L) {g : Option Bool} {el : El} {K : el.T → Prop} {b o : Nat} {l : List Value} {x : el.T} (hL : L[i]? = some (b, l)) (hv : elAt l o el = some x) (k : K x) : LdP w g (some ⟨b, o, none⟩) el K :=
  .of x (elAt_rd (H.get hL) hv) k
theorem LdP.atA (i : Nat) (H : AtD D G w0 w L) {g : Option Bool} {el : El} {K : el.T → Prop} {b o n : Nat} {l : List Value} {x : el.T} (hL : L[i]? = some (b, l)) (hv : elAt l (o + n) el = some x) (k : K x) : LdP w g (addP (some ⟨b, o, none⟩) n) el K := by
  rw [addP_B]; exact .at i H hL hv k
theorem AlP.go (H : AtD D G w0 w L) {cs : List Value} {e : TypeId} {K : Nat → World → Prop} (k : ∀ b w1, AtD D G w0 w1 ((b, cs) :: L) → K b w1) : AlP w ⟨cs⟩ e K :=
  fun _ h => k _ _ ((H.ext h).alloc cs e)
theorem StP.at (i : Nat) (H : AtD D G w0 w L) {b o : Nat} {l vs : List Value} {K : World → Prop} (hL : L[i]? = some (b, l)) (ho : vs.all (·.oneCell') = true) (hn : o + vs.length ≤ l.length)
    (k : ∀ w1, AtD D G w0 w1 (L.set i (b, l.take o ++ (vs ++ l.drop (o + vs.length)))) → K w1) : StP w (some ⟨b, o, none⟩) vs K :=
  fun _ h => ⟨⟨ho, ((H.ext h).get hL).st hn⟩, k _ ((H.ext h).put i hL vs hn)⟩
theorem StP.all (i : Nat) (H : AtD D G w0 w L) {b : Nat} {l vs : List Value} {K : World → Prop} (hL : L[i]? = some (b, l)) (ho : vs.all (·.oneCell') = true) (hn : vs.length = l.length)
    (k : ∀ w1, AtD D G w0 w1 (L.set i (b, vs)) → K w1) : StP w (some ⟨b, 0, none⟩) vs K := by
  refine StP.at i H hL ho (by omega) fun w1 h1 => k w1 ?_
  rw [Nat.zero_add, hn, List.drop_length, List.append_nil, List.take_zero, List.nil_append] at h1
  exact h1
theorem StP.one (i : Nat) (H : AtD D G w0 w L) {b o : Nat} {l : List Value} {x : Value} {K : World → Prop} (hL : L[i]? = some (b, l)) (ho : x.oneCell' = true) (hn : Nat.blt o l.length = true)
    (k : ∀ w1, AtD D G w0 w1 (L.set i (b, l.set o x)) → K w1) : StP w (some ⟨b, o, none⟩) [x] K := by
  have hn : o < l.length := by simpa [Nat.blt_eq] using hn
  refine StP.at i H hL (by simp [ho]) (by simp only [List.length_singleton]; omega) fun w1 h1 => k w1 ?_
  rw [show l.set o x = l.take o ++ ([x] ++ l.drop (o + [x].length)) from by simp [List.set_eq_take_append_cons_drop, hn]]
  exact h1
theorem StP.oneA (i : Nat) (H : AtD D G w0 w L) {b o n : Nat} {l : List Value} {x : Value} {K : World → Prop} (hL : L[i]? = some (b, l)) (ho : x.oneCell' = true) (hn : Nat.blt (o + n) l.length = true)
    (k : ∀ w1, AtD D G w0 w1 (L.set i (b, l.set (o + n) x)) → K w1) : StP w (addP (some ⟨b, o, none⟩) n) [x] K := by
  rw [addP_B]; exact StP.one i H hL ho hn k
theorem EnP.go (H : AtD D G w0 w L) {K : World → Prop} (k : ∀ w1, AtD D G w0 w1 L → K w1) : EnP w K := fun _ h => k _ (H.ext h)
theorem CaP.go (H : AtD D G w0 w L) {P : Program} {f : FuncId} {s : Sh} {args : List Value} {K : s.T → World → Prop} (k : ∀ w1, AtD D G w0 w1 L → CallsR P f s args w1 K) : CaP P f s args w K := fun _ h => k _ (H.ext h)
/-- A call of what leaves old memory alone. -/
theorem CaP.quiet (H : AtD D G w0 w L) {P : Program} {f : FuncId} {s : Sh} {args : List Value} {R : s.T → Prop} {K : s.T → World → Prop} (hc : ∀ w, CallsR P f s args w (fun x w' => R x ∧ Ext w w')) (k : ∀ x w1, R x → AtD D G w0 w1 L → K x w1) : CaP P f s args w K :=
  fun w1 h => (hc w1).mono fun x w2 ⟨hr, hx⟩ => k x w2 hr ((H.ext h).ext hx)
end
end Go.RX
namespace Go.RX
open Go.RowKit
variable {D G : List Nat} {w0 wb w w' w1 : World} {L Lb : List (Nat × List Value)}
theorem AtD.ownE (_ : AtD D G w0 wb L) (H : At [] wb w Lb) {e : El} {s : Option Addr × Nat × Nat} {xs : List e.T} (ho : Own w0 wb e s xs) : Own w0 w e s xs := ho.ext H.all
theorem AtD.then (Hb : AtD D G w0 wb L) (H : At [] wb w Lb) : AtD D G w0 w L := Hb.ext H.all
theorem AtD.below (H : AtD D G w0 w []) (h : Below w0.heap.size w w') (hs : w.heap.size ≤ w'.heap.size) (hD : D = []) : AtD D G w0 w' [] where
  fr := ⟨h.os.trans H.fr.os, h.tape.trans H.fr.tape, h.output.trans H.fr.output, Nat.le_trans H.fr.size hs, fun k hk hn => (h.block k hk).trans (H.fr.block k hk hn)⟩
  blk := fun x hx => by cases hx
  own := fun x hx => by cases hx
  nd := List.nodup_nil
  mks := fun x hx => by rw [hD] at hx; cases hx
/-- One more element at a row's end; 'wb': the round's start. -/
theorem At.push0 (i : Nat) (Hb : At G w0 wb []) {e : El} {s : Option Addr × Nat × Nat} {xs : List e.T} (ho : Own w0 wb e s xs) (H : At [] wb w Lb)
    {b : Nat} {l : List Value} (x : e.T) (hL : Lb[i]? = some (b, l)) (hl : l = cellsOf e x) (hp : plainE e = true) {t : TypeId} {size bytes : Nat} {z : Array Value} (hsz : size = stride e) (hz : z.size = stride e) (hb : (xs.length + 1) * bytes ≤ 140737488355328)
    {R : Option Addr × Nat × Nat → World → Prop} (k : ∀ s' w', At G w0 w' [] → Own w0 w' e s' (xs ++ [x]) → R s' w') :
    apR w t size bytes z s (some ⟨b, 0, none⟩, 1, 1) R := by
  subst hsz; subst hl
  have hn : w0.heap.size ≤ w.heap.size := Nat.le_trans Hb.fr.size H.fr.size
  have ho1 : Own (trunc w0.heap.size w) w e s xs := ((ho.ext H.all).toN).of (Nat.le_of_eq (trunc_size hn))
  refine own_append (ys := [x]) ho1 (trunc_ext hn) hp rfl ?_ hz hb fun s' w' ho' he' _ hs _ => k s' w' ((Hb.then H).below (below_of_trunc hn he' hs) hs rfl) ?_
  · refine (H.get hL).rdN (flat_length e [x]) fun j hj => ?_
    simp [flat]
  · have := ho'.toN
    rw [trunc_size hn] at this
    exact this
theorem LdP.old (H : AtD D G w0 w L) {b o : Nat} {l : List Value} (h : Blk w0 b l) (hb : b ∉ G) {g : Option Bool} {el : El} {K : el.T → Prop} {x : el.T} (hv : elAt l o el = some x) (k : K x) : LdP w g (some ⟨b, o, none⟩) el K :=
  .of x (elAt_rd (H.old h hb) hv) k
theorem LdP.oldA (H : AtD D G w0 w L) {b o n : Nat} {l : List Value} (h : Blk w0 b l) (hb : b ∉ G) {g : Option Bool} {el : El} {K : el.T → Prop} {x : el.T} (hv : elAt l (o + n) el = some x) (k : K x) : LdP w g (addP (some ⟨b, o, none⟩) n) el K := by
  rw [addP_B]; exact .old H h hb hv k
theorem Own.start (w0 w : World) (e : El) : Own w0 w e (none, 0, 0) [] := Own.nil w0 w e
/-- A new row is one of the known blocks. -/
theorem AtD.more (H : AtD D G w0 w L) (h : Ext w w') {b : Nat} {l : List Value} (hb : w.heap.size ≤ b) (k : Blk w' b l) : AtD D G w0 w' ((b, l) :: L) := by
  have H1 := H.ext h
  refine ⟨H1.fr, fun x hx => ?_, fun x hx => ?_, ?_, H1.mks⟩
  · rcases List.mem_cons.1 hx with rfl | hx
    · exact k
    · exact H1.blk x hx
  · rcases List.mem_cons.1 hx with rfl | hx
    · exact .inl (Nat.le_trans H.fr.size hb)
    · exact H1.own x hx
  · refine List.nodup_cons.2 ⟨fun hm => ?_, H.nd⟩
    obtain ⟨x, hx, e⟩ := List.mem_map.1 hm
    have := (H.blk x hx).lt
    rw [e] at this
    exact absurd this (Nat.not_lt.2 hb)
/-- A row that was handed back is one of the known blocks. -/
theorem AtD.got (H : AtD D G w0 w L) (h : Ext w w') {e : El} {r : Option Addr × Nat × Nat} {xs : List e.T} (ho : Own w w' e r xs) (hx : xs ≠ []) :
    ∃ b c rest, r = (some ⟨b, 0, none⟩, xs.length, c) ∧ AtD D G w0 w' ((b, flat e xs ++ rest) :: L) := by
  obtain ⟨h1, h2, h3⟩ := ho
  obtain ⟨p, n, c⟩ := r
  rcases h3 with ⟨_, h3, _⟩ | ⟨b, l, a1, a2, a3, _, a5⟩
  · exact absurd h3 hx
  · simp only at a1 h1
    subst a1; subst h1
    refine ⟨b, c, l.drop (xs.length * stride e), rfl, H.more h a2 ?_⟩
    have el : l = flat e xs ++ l.drop (xs.length * stride e) := by rw [← a5, List.take_append_drop]
    rw [← el]; exact a3
/-- A call that hands back a new row. -/
theorem CaP.row (H : AtD D G w0 w L) {P : Program} {f : FuncId} {args : List Value} {e : El} {xs : List e.T} {K : (Option Addr × Nat × Nat) → World → Prop} (hx : xs ≠ [])
    (hc : ∀ w', AtD D G w0 w' L → CallsR P f (.el (.one .slice)) args w' (fun r w'' => Own w' w'' e r xs ∧ Ext w' w'')) (k : ∀ b c rest w1, AtD D G w0 w1 ((b, flat e xs ++ rest) :: L) → K (some ⟨b, 0, none⟩, xs.length, c) w1) :
    CaP P f (.el (.one .slice)) args w K := fun w1 h => (hc w1 (H.ext h)).mono fun x w2 ⟨ho, hx2⟩ => by
  obtain ⟨b, c, rest, rfl, H2⟩ := (H.ext h).got hx2 ho hx
  exact k b c rest w2 H2
/-- A name for what is reckoned is let go. -/
theorem shr_go {α : Sort _} {e : α} {K : α → Prop} (k : K e) : ∀ x, x = e → K x := fun x hx => by rw [hx]; exact k
end Go.RX
/-! Ranges over functions: an iterator's contract, and the rule for a range. -/
namespace Go.RX
open Go.RowKit
/-- An iterator: for i from 0 on it hands on 'yv i', if that is something; what it leans on is St. -/
def ItOk (P : Program) (fid : FuncId) (args : Nat → List Value) (n : Nat) (yv : Nat → Option (List Value)) (St : World → Prop) : Prop :=
  ∀ (y : Nat) (w : World) (J : Nat → World → Prop) (Dn : World → Prop),
    (∀ i w w', J i w → Ext w w' → J i w') → (∀ w w', Dn w → Ext w w' → Dn w') → (∀ i w, J i w → St w) →
    (∀ i, i < n → yv i = none → ∀ w, J i w → J (i + 1) w) →
    (∀ i v, i < n → yv i = some v → ∀ w (R : Bool → World → Prop), J i w → (∀ w', J (i + 1) w' → R true w') → (∀ w', Dn w' → R false w') → YieldC P y v w R) →
    J 0 w → Calls P fid ⟨args y⟩ w (fun e w' => ∃ v, e = .returned v ∧ (J n w' ∨ Dn w'))
section
variable {D G : List Nat} {w0 w : World} {L : List (Nat × List Value)}
/-- A round may begin. -/
def Rdy (D G : List Nat) (w0 w : World) (L : List (Nat × List Value)) (l : Nat) (rec : Loop) : Prop := w0.heap.size ≤ l ∧ AtD D G w0 w L ∧ LoopAt w l rec .ready none
def Bsy (D G : List Nat) (w0 w : World) (L : List (Nat × List Value)) (l : Nat) (rec : Loop) : Prop := w0.heap.size ≤ l ∧ AtD D G w0 w L ∧ LoopAt w l rec .busy none
def Lft (D G : List Nat) (w0 w : World) (L : List (Nat × List Value)) (l : Nat) (rec : Loop) (j : Code) : Prop := w0.heap.size ≤ l ∧ AtD D G w0 w L ∧ LoopAt w l rec .done (some j)
theorem loop_notin {l : Nat} {rec : Loop} {st : LoopState} {pd : Option Code} (H : AtD D G w0 w L) (h : LoopAt w l rec st pd) : l ∉ D ∧ l ∉ L.map (·.1) := by
  refine ⟨fun hm => ?_, fun hm => ?_⟩
  · have := (H.mks l hm).2
    unfold LoopAt at h
    rw [h] at this
    cases this
  · obtain ⟨x, hx, e⟩ := List.mem_map.1 hm
    exact AtD.blk_ne_obj (H.blk x hx) h (fun _ _ _ hc => by cases hc) e
theorem AtD.putL {l : Nat} {rec : Loop} {st : LoopState} {pd : Option Code} (H : AtD D G w0 w L) (hl : w0.heap.size ≤ l) (h : LoopAt w l rec st pd) (st' : LoopState) (pd' : Option Code) : AtD D G w0 (RX.putL w l rec st' pd') L :=
  H.putObj hl h (fun _ _ _ hc => by cases hc) (loop_notin H h).1
theorem RoP.go {l n m : Nat} {rec : Loop} {K : Prop} (h : Rdy D G w0 w L l rec) (hn : n = m) (k : K) : RoP l rec n m w K := ⟨⟨none, h.2.2⟩, hn, k⟩
theorem BeP.go {l : Nat} {rec : Loop} {K : World → Prop} (h : Rdy D G w0 w L l rec) (k : ∀ wb, At (L.map (·.1)) wb wb L → Bsy D G w0 wb L l rec → K wb) : BeP l rec w K := fun w5 h5 => by
  obtain ⟨hl, H, hL⟩ := h
  have H5 := H.ext h5
  have hL5 := hL.ext h5
  have Hb := H5.putL hl hL5 .busy none
  exact ⟨none, hL5, k _ Hb.again ⟨hl, Hb, hL5.put .busy none⟩⟩
theorem FiP.go {l : Nat} {rec : Loop} {j : Option Code} {wb w6 : World} {L' : List (Nat × List Value)} {R : Bool → World → Prop} (h : Bsy D G w0 wb L l rec) (H6 : At (L.map (·.1)) wb w6 L')
    (k : ∀ w7, w0.heap.size ≤ l → AtD D G w0 w7 L' → LoopAt w7 l rec (if j.isNone then .ready else .done) j → R j.isNone w7) : FiP l rec j w6 R := fun w7 h7 => by
  obtain ⟨hl, H, hL⟩ := h
  have H7 := (H.join (fun x hx => hx) H6).ext h7
  have hL6 : LoopAt w6 l rec .busy none := hL.same (H6.fr.block l hL.lt (loop_notin H hL).2)
  have hL7 := hL6.ext h7
  exact ⟨.busy, none, hL7, k _ hl (H7.putL hl hL7 _ _) (hL7.put _ _)⟩
/-- One more round. -/
theorem FiP.next {l : Nat} {rec : Loop} {wb w6 : World} {L' : List (Nat × List Value)} {R : Bool → World → Prop} (h : Bsy D G w0 wb L l rec) (H6 : At (L.map (·.1)) wb w6 L') (k : ∀ w7, Rdy D G w0 w7 L' l rec → R true w7) : FiP l rec none w6 R :=
  FiP.go h H6 fun w7 a b c => k w7 ⟨a, b, c⟩
/-- It is left. -/
theorem FiP.left {l : Nat} {rec : Loop} {j : Code} {wb w6 : World} {L' : List (Nat × List Value)} {R : Bool → World → Prop} (h : Bsy D G w0 wb L l rec) (H6 : At (L.map (·.1)) wb w6 L') (k : ∀ w7, Lft D G w0 w7 L' l rec j → R false w7) : FiP l rec (some j) w6 R :=
  FiP.go h H6 fun w7 a b c => k w7 ⟨a, b, c⟩
theorem rxAfter.none {l : Nat} {rec : Loop} {Kn Kr : World → Prop} {Kx : Nat → World → Prop} (h : Rdy D G w0 w L l rec) (k : ∀ w5, AtD D G w0 w5 L → Kn w5) : rxAfter l rec w Kn Kx Kr :=
  ⟨.ready, .none, h.2.2, by simp, k _ (h.2.1.putL h.1 h.2.2 _ _)⟩
theorem rxAfter.ret {l : Nat} {rec : Loop} {Kn Kr : World → Prop} {Kx : Nat → World → Prop} (h : Lft D G w0 w L l rec .ret) (k : ∀ w5, AtD D G w0 w5 L → Kr w5) : rxAfter l rec w Kn Kx Kr :=
  ⟨.done, .some .ret, h.2.2, by simp, k _ (h.2.1.putL h.1 h.2.2 _ _)⟩
theorem rxAfter.exit {l id : Nat} {rec : Loop} {Kn Kr : World → Prop} {Kx : Nat → World → Prop} (h : Lft D G w0 w L l rec (.exit id)) (k : ∀ w5, AtD D G w0 w5 L → Kx id w5) : rxAfter l rec w Kn Kx Kr :=
  ⟨.done, .some (.exit id), h.2.2, by simp, k _ (h.2.1.putL h.1 h.2.2 _ _)⟩
theorem flatten_get : ∀ (m : Nat) (z : List Value) (i : Nat), i < m * z.length → (List.replicate m z).flatten[i]? = z[i % z.length]?
  | 0, z, i, h => by simp at h
  | m + 1, z, i, h => by
    rw [List.replicate_succ, List.flatten_cons]
    by_cases hi : i < z.length
    · rw [List.getElem?_append_left hi, Nat.mod_eq_of_lt hi]
    · rw [List.getElem?_append_right (by omega), flatten_get m z (i - z.length) (by rw [Nat.add_mul] at h; omega), ← Nat.mod_eq_sub_mod (by omega)]
theorem mkCells_eq (m : Nat) (z : List Value) : mkCells ⟨z⟩ (m * z.length) = ⟨(List.replicate m z).flatten⟩ := by
  have hl : (List.replicate m z).flatten.length = m * z.length := by simp
  apply Array.ext'
  apply List.ext_getElem?
  intro i
  unfold mkCells
  by_cases h : i < m * z.length
  · have h0 : ¬ m * z.length = 0 := by omega
    have hz : 0 < z.length := by
      rcases Nat.eq_zero_or_pos z.length with e | e
      · rw [e, Nat.mul_zero] at h; omega
      · exact e
    rw [flatten_get m z i h]
    have hlt : i % z.length < z.length := Nat.mod_lt _ hz
    simp only [if_neg h0, Array.toList_map, Array.toList_range, List.getElem?_map, List.getElem?_range h, Option.map_some]
    show some ((Array.mk z)[i % z.length]!) = _
    rw [List.getElem?_eq_getElem hlt]
    simp [hlt]
  · rw [List.getElem?_eq_none (by simp; omega), List.getElem?_eq_none (by rw [hl]; omega)]
/-- A new row of zero values. -/
theorem MkP.go (H : AtD D G w0 w L) {bytes size : Nat} {n m : Int} {z : List Value} {e : TypeId} {K : Nat → World → Prop} (hz : size = z.length) (h0 : 0 ≤ n) (h1 : n ≤ m) (h2 : m < 4611686018427387904) (h3 : bytes * m ≤ 281474976710656)
    (k : ∀ b w1, AtD D G w0 w1 ((b, (List.replicate m.toNat z).flatten) :: L) → K b w1) : MkP w bytes size n m ⟨z⟩ e K := fun w1 h => by
  refine ⟨⟨h0, h1, by omega, h3⟩, ?_⟩
  rw [hz, mkCells_eq]
  exact k _ _ ((H.ext h).alloc _ e)
theorem flat_replicate (e : El) (x : e.T) (m : Nat) : flat e (List.replicate m x) = (List.replicate m (cellsOf e x)).flatten := by
  simp [flat, List.flatMap_replicate]
/-- A row is copied. -/
theorem apR.copy (H : AtD D G w0 w L) {e : El} {ys : List e.T} {b n c : Nat} {l : List Value} (hb : Blk w b l) (hl : l.take (ys.length * stride e) = flat e ys) (hn : n = ys.length) (hy : ys ≠ []) (hp : plainE e = true) {t : TypeId} {size bytes : Nat} {z : Array Value} (hsz : size = stride e) (hz : z.size = stride e) (hbb : ys.length * bytes ≤ 140737488355328)
    {R : Option Addr × Nat × Nat → World → Prop} (k : ∀ b' c' rest w', AtD D G w0 w' ((b', flat e ys ++ rest) :: L) → R (some ⟨b', 0, none⟩, n, c') w') :
    apR w t size bytes z (none, 0, 0) (some ⟨b, 0, none⟩, n, c) R := by
  subst hsz; subst hn
  refine own_append (w0 := w) (xs := []) (ys := ys) (Own.nil w w e) (Ext.refl w) hp rfl ?_ hz (by simpa using hbb) fun s' w' ho he _ _ _ => ?_
  · refine hb.rdN (flat_length e ys) fun i hi => ?_
    rw [← hl, Nat.zero_add, List.getElem?_take_of_lt hi]
  · obtain ⟨b', c', rest, rfl, H'⟩ := H.got he ho (by simpa using hy)
    exact k b' c' rest w' (by simpa using H')
/-- A function's end closes the marks. -/
theorem ClP.go {r : Nat} {K : World → Prop} (H : AtD [r] G w0 w L) (k : ∀ w1, At G w0 w1 L → K w1) : ClP [r] w K := fun w1 h => by
  have H1 := H.ext h
  have hr := H1.mks r (by simp)
  refine ⟨⟨hr.2, trivial⟩, k _ ?_⟩
  have H2 : At G w0 w1 L := ⟨H1.fr, H1.blk, H1.own, H1.nd, fun x hx => by cases hx⟩
  exact H2.putObj hr.1 hr.2 (fun _ _ _ hc => by cases hc) (by simp)
/-- **A range over a function.** -/
theorem RnP.inv {P : Program} {fid : FuncId} {args : Nat → List Value} {ps : Array Nat} {T : Type} {em : T → List Value} {Rd : Nat → Loop → T → World → (Bool → World → Prop) → Prop} {Af : Nat → Loop → World → Prop} (H : AtD D G w0 w L)
    {n : Nat} {yv : Nat → Option (List Value)} {St : World → Prop} (It : ItOk P fid args n yv St) (Inv : Nat → List (Nat × List Value) → Prop) (Q : Code → List (Nat × List Value) → Prop) (h0 : Inv 0 L)
    (hSt : ∀ D' i w' L', Inv i L' → AtD D' G w0 w' L' → St w') (hskip : ∀ i L', i < n → yv i = none → Inv i L' → Inv (i + 1) L') (hyv : ∀ i v, i < n → yv i = some v → ∃ x, v = em x)
    (hbody : ∀ i x L', i < n → yv i = some (em x) → Inv i L' → ∀ r l rec w3 (R : Bool → World → Prop), Rdy (r :: D) G w0 w3 L' l rec → (∀ L'' w', Inv (i + 1) L'' → Rdy (r :: D) G w0 w' L'' l rec → R true w') → (∀ j L'' w', Q j L'' → Lft (r :: D) G w0 w' L'' l rec j → R false w') → Rd l rec x w3 R)
    (hn : ∀ L' r rec w4, Inv n L' → Rdy (r :: D) G w0 w4 L' (r + 1) rec → Af r rec w4) (hd : ∀ j L' r rec w4, Q j L' → Lft (r :: D) G w0 w4 L' (r + 1) rec j → Af r rec w4) : RnP P fid args ps w em Rd Af := by
  intro w1 h1 rec _ _ hst hpd hyield
  have H1 := H.ext h1
  have sz : (w1.alloc (.deferred (some []))).heap.size = w1.heap.size + 1 := alloc_size _ _
  have hrec : rec = { rec with state := .ready, pending := .none } := by rw [← hst, ← hpd]
  have hsz : w0.heap.size ≤ w1.heap.size := H1.fr.size
  have hW : Rdy (w1.heap.size :: D) G w0 ((w1.alloc (.deferred (some []))).alloc (.loop rec)) L (w1.heap.size + 1) rec := by
    refine ⟨by omega, ?_, ?_⟩
    · have H2 := (H1.allocO (.deferred (some []))).allocO (.loop rec)
      refine ⟨H2.fr, H2.blk, H2.own, H2.nd, fun r hr => ?_⟩
      rcases List.mem_cons.1 hr with rfl | hr
      · exact ⟨hsz, (Ext.alloc _ _).obj (alloc_self w1 _)⟩
      · exact H2.mks r hr
    · have := alloc_self (w1.alloc (.deferred (some []))) (.loop rec)
      rw [sz] at this
      unfold LoopAt; rw [this, ← hrec]
  refine Calls.mono (It (w1.heap.size + 1) _ (fun i w' => ∃ L', Inv i L' ∧ Rdy (w1.heap.size :: D) G w0 w' L' (w1.heap.size + 1) rec) (fun w' => ∃ j L', Q j L' ∧ Lft (w1.heap.size :: D) G w0 w' L' (w1.heap.size + 1) rec j) ?_ ?_ ?_ ?_ ?_ ⟨L, h0, hW⟩) ?_
  · exact fun i a b ⟨L', hi, h⟩ k => ⟨L', hi, h.1, h.2.1.ext k, h.2.2.ext k⟩
  · exact fun a b ⟨j, L', hq, h⟩ k => ⟨j, L', hq, h.1, h.2.1.ext k, h.2.2.ext k⟩
  · exact fun i a ⟨L', hi, h⟩ => hSt _ i a L' hi h.2.1
  · exact fun i hi hy a ⟨L', hI, h⟩ => ⟨L', hskip i L' hi hy hI, h⟩
  · intro i v hi hy a R ⟨L', hI, hJ⟩ hR1 hR2
    obtain ⟨x, rfl⟩ := hyv i v hi hy
    exact hyield x a R (hbody i x L' hi hy hI _ _ _ _ R hJ (fun L'' w' hI' hr => hR1 w' ⟨L'', hI', hr⟩) fun j L' w' hq hl => hR2 w' ⟨j, L', hq, hl⟩)
  · rintro e a ⟨v, he, ⟨L', hI, h⟩ | ⟨j, L', hq, h⟩⟩
    · exact ⟨v, he, hn L' _ _ _ hI h⟩
    · exact ⟨v, he, hd j L' _ _ _ hq h⟩
theorem RnP.go {P : Program} {fid : FuncId} {args : Nat → List Value} {ps : Array Nat} {T : Type} {em : T → List Value} {Rd : Nat → Loop → T → World → (Bool → World → Prop) → Prop} {Af : Nat → Loop → World → Prop} (H : AtD D G w0 w L)
    {n : Nat} {yv : Nat → Option (List Value)} {St : World → Prop} (It : ItOk P fid args n yv St) (Ls : Nat → List (Nat × List Value)) (Q : Code → List (Nat × List Value) → Prop) (h0 : Ls 0 = L)
    (hSt : ∀ D' i w', AtD D' G w0 w' (Ls i) → St w') (hskip : ∀ i, i < n → yv i = none → Ls (i + 1) = Ls i) (hyv : ∀ i v, i < n → yv i = some v → ∃ x, v = em x)
    (hbody : ∀ i x, i < n → yv i = some (em x) → ∀ r l rec w3 (R : Bool → World → Prop), Rdy (r :: D) G w0 w3 (Ls i) l rec → (∀ w', Rdy (r :: D) G w0 w' (Ls (i + 1)) l rec → R true w') → (∀ j L' w', Q j L' → Lft (r :: D) G w0 w' L' l rec j → R false w') → Rd l rec x w3 R)
    (hn : ∀ r rec w4, Rdy (r :: D) G w0 w4 (Ls n) (r + 1) rec → Af r rec w4) (hd : ∀ j L' r rec w4, Q j L' → Lft (r :: D) G w0 w4 L' (r + 1) rec j → Af r rec w4) : RnP P fid args ps w em Rd Af :=
  RnP.inv H It (fun i L' => L' = Ls i) Q h0.symm (fun D' i w' L' hI h => hSt D' i w' (by rw [← hI]; exact h)) (fun i L' hi hy hI => by rw [hskip i hi hy]; exact hI) hyv
    (fun i x L' hi hy hI r l rec w3 R hr h1 h2 => hbody i x hi hy r l rec w3 R (by rw [← hI]; exact hr) (fun w' h => h1 _ w' rfl h) h2) (fun L' r rec w4 hI h => hn r rec w4 (by rw [← hI]; exact h)) hd
theorem AtD.notin (H : AtD D G w0 w L) {b : Nat} (hb : b < w0.heap.size) (hG : b ∉ G) : b ∉ L.map (·.1) := fun hm => by
  obtain ⟨x, hx, e⟩ := List.mem_map.1 hm
  rcases H.own x hx with h | h
  · rw [e] at h; omega
  · rw [e] at h; exact hG h
/-- What lay there before a round, and is none of the known blocks. -/
theorem AtD.keep {wb w1 : World} {L' : List (Nat × List Value)} (H : AtD D G w0 wb L) (K : At (L.map (·.1)) wb w1 L') {b : Nat} {l : List Value} (h : Blk w0 b l) (hG : b ∉ G) : Blk w1 b l :=
  K.old (H.old h hG) (H.notin h.lt hG)
theorem At.start1 {b : Nat} {l : List Value} (h : Blk w b l) : At [b] w w [(b, l)] where
  fr := Fr.refl _ w
  blk := fun x hx => by rw [List.mem_singleton.1 hx]; exact h
  own := fun x hx => .inr (by rw [List.mem_singleton.1 hx]; simp)
  nd := by simp
  mks := fun x hx => by cases hx
theorem AtD.fr1 {b : Nat} {w1 : World} {l : List (Nat × List Value)} (H : At [b] w w1 l) : Fr [b] w w1 := H.fr
/-! Rows of elements in a known block. -/
theorem rd_flat {w : World} {b : Nat} {e : El} {xs : List e.T} {rest : List Value} (h : Blk w b (flat e xs ++ rest)) {i : Nat} {x : e.T} (hx : xs[i]? = some x) : rdAt w (addP (some ⟨b, 0, none⟩) (i * stride e)) e x :=
  (Sl.of_blk h (by rw [List.take_append_of_le_length (by rw [flat_length]; exact Nat.le_refl _), List.take_of_length_le (by rw [flat_length]; exact Nat.le_refl _)]) i x hx).2
theorem flat_set (e : El) : ∀ (xs : List e.T) (i : Nat) (y : e.T) (rest : List Value), i < xs.length → (flat e xs ++ rest).take (i * stride e) ++ (cellsOf e y ++ (flat e xs ++ rest).drop (i * stride e + (cellsOf e y).length)) = flat e (xs.set i y) ++ rest
  | [], i, y, rest, h => by simp at h
  | x :: xs, 0, y, rest, _ => by
    simp only [flat, List.flatMap_cons, Nat.zero_mul, List.take_zero, List.nil_append, Nat.zero_add, List.set_cons_zero, List.append_assoc]
    congr 1
    rw [cellsOf_length, ← cellsOf_length e x, List.drop_left]
  | x :: xs, i + 1, y, rest, h => by
    have ih := flat_set e xs i y rest (by simpa using h)
    have e1 : (i + 1) * stride e = (cellsOf e x).length + i * stride e := by rw [cellsOf_length, Nat.add_mul]; omega
    simp only [flat, List.flatMap_cons, List.set_cons_succ, List.append_assoc] at ih ⊢
    rw [e1, List.take_length_add_append, List.append_assoc, Nat.add_assoc, List.drop_length_add_append, ih]
theorem StP.flat (j : Nat) (H : AtD D G w0 w L) {b i : Nat} {e : El} {xs : List e.T} {rest vs : List Value} (y : e.T) {K : World → Prop} (hL : L[j]? = some (b, RX.flat e xs ++ rest)) (hv : vs = cellsOf e y) (hp : plainE e = true) (hi : i < xs.length)
    (k : ∀ w1, AtD D G w0 w1 (L.set j (b, RX.flat e (xs.set i y) ++ rest)) → K w1) : StP w (addP (some ⟨b, 0, none⟩) (i * stride e)) vs K := by
  rw [addP_B, Nat.zero_add]
  subst hv
  refine StP.at j H hL ?_ ?_ fun w1 h1 => k w1 ?_
  · have := oneCells_flat e [y] hp
    simpa [RX.flat] using this
  · rw [cellsOf_length, List.length_append, flat_length]
    have : (i + 1) * stride e ≤ xs.length * stride e := Nat.mul_le_mul_right _ hi
    rw [Nat.add_mul] at this
    omega
  · rw [flat_set e xs i y rest hi] at h1; exact h1
/-- A call that changes one known block. -/
theorem CaP.mod1 (H : AtD D G w0 w L) (j : Nat) {b : Nat} {l l' : List Value} (hL : L[j]? = some (b, l)) {P : Program} {f : FuncId} {s : Sh} {args : List Value} {v : s.T} {K : s.T → World → Prop}
    (hc : ∀ w1, AtD D G w0 w1 L → CallsR P f s args w1 (fun x w' => x = v ∧ Blk w' b l' ∧ Fr [b] w1 w')) (k : ∀ w2, AtD D G w0 w2 (L.set j (b, l')) → K v w2) : CaP P f s args w K := fun w1 h =>
  (hc w1 (H.ext h)).mono fun x w2 ⟨hx, hb, hf⟩ => by subst hx; exact k w2 ((H.ext h).mod j hL hf hb)
/-- A call that leaves old memory alone and hands back a value. -/
theorem CaP.val (H : AtD D G w0 w L) {P : Program} {f : FuncId} {s : Sh} {args : List Value} (v : s.T) {K : s.T → World → Prop}
    (hc : ∀ w1, AtD D G w0 w1 L → CallsR P f s args w1 (fun x w' => x = v ∧ Ext w1 w')) (k : ∀ w2, AtD D G w0 w2 L → K v w2) : CaP P f s args w K := fun w1 h =>
  (hc w1 (H.ext h)).mono fun x w2 ⟨hx, hx2⟩ => by subst hx; exact k w2 ((H.ext h).ext hx2)
/-- A quiet call inside a region that is evaluated in place. -/
theorem QCalls.of {P : Program} {f : FuncId} {s : Sh} {args : List Value} {v : s.T} (h : ∀ w', Ext w w' → CallsR P f s args w' (fun x w'' => x = v ∧ Ext w' w'')) : QCalls P f args w (s.emb v) :=
  fun w' hw => entry_of (h w' hw)
/-! A row that grows, among the known blocks. -/
theorem AtD.grow {e : El} {s : Option Addr × Nat × Nat} {xs : List e.T} {x : e.T} {b : Nat} {Ls L0 : List (Nat × List Value)} (H : AtD D G w0 w ((b, cellsOf e x) :: (Ls ++ L0)))
    (hs : (s = (none, 0, 0) ∧ xs = [] ∧ Ls = []) ∨ ∃ bs c rest, s = (some ⟨bs, 0, none⟩, xs.length, c) ∧ Ls = [(bs, flat e xs ++ rest)] ∧ (flat e xs ++ rest).length = c * stride e ∧ xs.length ≤ c)
    (hp : plainE e = true) {t : TypeId} {size bytes : Nat} {z : Array Value} (hsz : size = stride e) (hz : z.size = stride e) (hb : (xs.length + 1) * bytes ≤ 140737488355328)
    {R : Option Addr × Nat × Nat → World → Prop} (k : ∀ bs c rest w', (flat e (xs ++ [x]) ++ rest).length = c * stride e → xs.length + 1 ≤ c → AtD D G w0 w' ((bs, flat e (xs ++ [x]) ++ rest) :: L0) → R (some ⟨bs, 0, none⟩, xs.length + 1, c) w') :
    apR w t size bytes z s (some ⟨b, 0, none⟩, 1, 1) R := by
  subst hsz
  have tz : (trunc 0 w).heap.size = 0 := trunc_size (Nat.zero_le _)
  have ho : Own (trunc 0 w) w e s xs := by
    rcases hs with ⟨rfl, rfl, _⟩ | ⟨bs, c, rest, rfl, rfl, h1, h2⟩
    · exact Own.nil _ _ _
    · refine ⟨rfl, h2, .inr ⟨bs, _, rfl, by rw [tz]; exact Nat.zero_le _, H.get (i := 1) rfl, h1, ?_⟩⟩
      rw [List.take_append_of_le_length (by rw [flat_length]; exact Nat.le_refl _), List.take_of_length_le (by rw [flat_length]; exact Nat.le_refl _)]
  have hblk : Blk w b (cellsOf e x) := H.get (i := 0) rfl
  refine own_append (ys := [x]) ho (trunc_ext (Nat.zero_le _)) hp rfl ?_ hz hb fun s' w' ho' he' hf hsz hd => ?_
  · refine hblk.rdN (flat_length e [x]) fun j hj => ?_
    simp [flat]
  · obtain ⟨p, n, c⟩ := s'
    obtain ⟨h1, h2, h3⟩ := ho'
    simp only at h1 h2 h3 hd
    have hlen : (xs ++ [x]).length = xs.length + 1 := by simp
    rcases h3 with ⟨_, hx, _⟩ | ⟨bs, l, a1, _, a3, a4, a5⟩
    · simp at hx
    · subst a1
      rw [hlen] at h1 h2
      subst h1
      have el : l = flat e (xs ++ [x]) ++ l.drop ((xs ++ [x]).length * stride e) := by rw [← a5, List.take_append_drop]
      refine k bs c (l.drop ((xs ++ [x]).length * stride e)) w' (by rw [← el]; exact a4) h2 ?_
      rw [← el]
      -- which block it is
      have hG' : ∃ G', Fr G' w w' ∧ (∀ y ∈ G', y ∈ Ls.map (·.1)) := by
        rcases hs with ⟨rfl, _, rfl⟩ | ⟨bo, co, ro, rfl, rfl, _, _⟩
        · exact ⟨[], ⟨he'.os, he'.tape, he'.output, hsz, fun y hy _ => hf y hy (fun a ha => by cases ha)⟩, fun y hy => by cases hy⟩
        · exact ⟨[bo], ⟨he'.os, he'.tape, he'.output, hsz, fun y hy hn => hf y hy (fun a ha => by cases ha; simpa using hn)⟩, fun y hy => by simpa using hy⟩
      obtain ⟨G', hfr, hGs⟩ := hG'
      have hnd := H.nd
      simp only [List.map_cons, List.map_append, List.nodup_cons, List.nodup_append, List.mem_append] at hnd
      have memS : ∀ y ∈ Ls.map (·.1), w0.heap.size ≤ y ∨ y ∈ G := fun y hy => by
        obtain ⟨u, hu, rfl⟩ := List.mem_map.1 hy
        exact H.own u (List.mem_cons_of_mem _ (List.mem_append_left _ hu))
      have hbs : bs ∈ Ls.map (·.1) ∨ w.heap.size ≤ bs := by
        rcases hd with ⟨a, e1, e2⟩ | ⟨a, e1, e2⟩ | e1
        · cases e1
          rcases hs with ⟨rfl, _, _⟩ | ⟨bo, co, ro, rfl, rfl, _, _⟩
          · cases e2
          · cases e2; exact .inl (by simp)
        · cases e1; exact .inr e2
        · rcases hs with ⟨rfl, _, _⟩ | ⟨bo, co, ro, rfl, rfl, _, _⟩
          · cases e1
          · exact absurd (congrArg (fun z => z.2.1) e1) (by simp)
      refine H.frame hfr (fun y hy => memS y (hGs y hy)) (fun r hr hy => ?_) (fun y hy => ?_) (fun y hy => ?_) ?_
      · obtain ⟨u, hu, e1⟩ := List.mem_map.1 (hGs r hy)
        exact AtD.blk_ne_obj (H.blk u (List.mem_cons_of_mem _ (List.mem_append_left _ hu))) (H.mks r hr).2 (fun _ _ _ hc => by cases hc) e1
      · rcases List.mem_cons.1 hy with rfl | hy
        · exact a3
        · refine hfr.blk (fun hm => ?_) (H.blk y (List.mem_cons_of_mem _ (List.mem_append_right _ hy)))
          exact hnd.2.2.2 y.1 (hGs _ hm) y.1 (List.mem_map.2 ⟨y, hy, rfl⟩) rfl
      · rcases List.mem_cons.1 hy with rfl | hy
        · rcases hbs with h | h
          · exact memS _ h
          · exact .inl (Nat.le_trans H.fr.size h)
        · exact H.own y (List.mem_cons_of_mem _ (List.mem_append_right _ hy))
      · refine List.nodup_cons.2 ⟨fun hm => ?_, hnd.2.2.1⟩
        rcases hbs with h | h
        · exact hnd.2.2.2 bs h bs hm rfl
        · obtain ⟨u, hu, e1⟩ := List.mem_map.1 hm
          have := (H.blk u (List.mem_cons_of_mem _ (List.mem_append_right _ hu))).lt
          simp only at e1 h
          omega
/-- A row that was handed back: none, or one of the known blocks. -/
def RowIn (e : El) (rows : List (Nat × List Value)) (r : Option Addr × Nat × Nat) (xs : List e.T) : Prop :=
  r.2.1 = xs.length ∧ ((xs = [] ∧ rows = []) ∨ ∃ b rest, r.1 = some ⟨b, 0, none⟩ ∧ rows = [(b, RX.flat e xs ++ rest)])
theorem AtD.gotR {w' : World} (H : AtD D G w0 w L) (h : Ext w w') {e : El} {r : Option Addr × Nat × Nat} {xs : List e.T} (ho : Own w w' e r xs) : ∃ rows, AtD D G w0 w' (L ++ rows) ∧ RowIn e rows r xs := by
  by_cases hx : xs = []
  · exact ⟨[], by rw [List.append_nil]; exact H.ext h, ho.len, .inl ⟨hx, rfl⟩⟩
  · obtain ⟨b, c, rest, rfl, H2⟩ := H.got h ho hx
    exact ⟨[(b, RX.flat e xs ++ rest)], H2.perm (List.perm_append_singleton _ _), rfl, .inr ⟨b, rest, rfl, rfl⟩⟩
theorem RowIn.sl {e : El} {rows : List (Nat × List Value)} {r : Option Addr × Nat × Nat} {xs : List e.T} (h : RowIn e rows r xs) (H : AtD D G w0 w L) (hm : ∀ x ∈ rows, x ∈ L) : Sl w e r.1 xs := by
  rcases h.2 with ⟨rfl, _⟩ | ⟨b, rest, h1, rfl⟩
  · intro i x hx; simp at hx
  · rw [h1]
    refine Sl.of_blk (H.blk _ (hm _ (List.mem_singleton.2 rfl))) ?_
    rw [List.take_append_of_le_length (by rw [flat_length]; exact Nat.le_refl _), List.take_of_length_le (by rw [flat_length]; exact Nat.le_refl _)]
/-- A call that hands back a row. -/
theorem CaP.rowR (H : AtD D G w0 w L) {P : Program} {f : FuncId} {args : List Value} {e : El} {xs : List e.T} {K : (Option Addr × Nat × Nat) → World → Prop}
    (hc : ∀ w', AtD D G w0 w' L → CallsR P f (.el (.one .slice)) args w' (fun r w'' => Own w' w'' e r xs ∧ Ext w' w'')) (k : ∀ r rows w1, AtD D G w0 w1 (L ++ rows) → RowIn e rows r xs → K r w1) :
    CaP P f (.el (.one .slice)) args w K := fun w1 h => (hc w1 (H.ext h)).mono fun x w2 ⟨ho, hx2⟩ => by
  obtain ⟨rows, H2, hr⟩ := (H.ext h).gotR hx2 ho
  exact k x rows w2 H2 hr
end
end Go.RX
/-! Ranges over functions that look at words, and range over functions themselves: what is handed on is gathered. -/
namespace Go.RX
open Go.RowKit
/-- No row of cells. -/
def NC (o : Obj) : Prop := ∀ a t f, o ≠ .cells a t f
/-- Other objects than one are left alone. -/
def Ob (l : Nat) (w w' : World) : Prop := ∀ r o, r ≠ l → NC o → w.heap[r]? = some o → w'.heap[r]? = some o
theorem Ob.trans {l : Nat} {a b c : World} (h : Ob l a b) (k : Ob l b c) : Ob l a c := fun r o hr ho hh => k r o hr ho (h r o hr ho hh)
theorem Ob.of_ext {l : Nat} {a b : World} (h : Ext a b) : Ob l a b := fun _ _ _ _ hh => h.obj hh
theorem Ob.put (l : Nat) (w : World) (o : Obj) : Ob l w (w.putObj l o) := fun r o' hr _ hh => by rw [putObj_ne hr]; exact hh
/-- What a range that gathers keeps to: what has been handed on, blocks and other objects that are known; one block (bm) holds one of some rows. -/
structure JK {T : Type} (bm : Nat) (mc : List Value → Prop) (J : List T → List (Nat × List Value) → List (Nat × Obj) → World → Prop) : Prop where
  step : ∀ {a X O w w' l' Y}, J a X O w → Fr [bm] w w' → Blk w' bm l' → mc l' → (∀ y ∈ Y, w.heap.size ≤ y.1 ∧ Blk w' y.1 y.2) → (Y.map (·.1)).Nodup → J a (Y ++ X) O w'
  mem : ∀ {a X O w}, J a X O w → ∃ l, mc l ∧ Blk w bm l
  blk : ∀ {a X O w x}, J a X O w → x ∈ X → x.1 ≠ bm ∧ Blk w x.1 x.2
  obj : ∀ {a X O w r o}, J a X O w → (r, o) ∈ O → w.heap[r]? = some o
  alO : ∀ {a X O w o}, J a X O w → NC o → J a X ((w.heap.size, o) :: O) (w.alloc o)
  puO : ∀ {a X O w r o o'}, J a X ((r, o) :: O) w → NC o' → J a X ((r, o') :: O) (w.putObj r o')
  sub : ∀ {a X O X' O' w}, J a X O w → (∀ x ∈ X', x ∈ X) → O'.Sublist O → J a X' O' w
  perm : ∀ {a X O O' w}, J a X O w → O'.Perm O → J a X O' w
/-- Yield takes what it is handed. -/
def Yd {T : Type} (P : Program) (y : Nat) (em : T → List Value) (N : Nat) (J : List T → List (Nat × List Value) → List (Nat × Obj) → World → Prop) : Prop :=
  ∀ a x X O w (R : Bool → World → Prop), a.length < N → J a X O w → (∀ w', J (a ++ [x]) X O w' → R true w') → YieldC P y (em x) w R
/-- An iterator that hands on xs. -/
def ItJ {T : Type} (P : Program) (fid : FuncId) (args : Nat → List Value) (em : T → List Value) (N bm : Nat) (mc : List Value → Prop) (X0 : List (Nat × List Value)) (xs : List T) : Prop :=
  ∀ (y : Nat) (J : List T → List (Nat × List Value) → List (Nat × Obj) → World → Prop), JK bm mc J → Yd P y em N J → ∀ a X O w, a.length + xs.length ≤ N → (∀ x ∈ X0, x ∈ X) → J a X O w →
    Calls P fid ⟨args y⟩ w (fun e w' => ∃ v, e = .returned v ∧ J (a ++ xs) X O w')
section
variable {T : Type} {bm : Nat} {mc : List Value → Prop} {J : List T → List (Nat × List Value) → List (Nat × Obj) → World → Prop} {a : List T} {X : List (Nat × List Value)} {O : List (Nat × Obj)} {w w' : World}
theorem JK.ext (K : JK bm mc J) (j : J a X O w) (h : Ext w w') : J a X O w' := by
  obtain ⟨l, h1, h2⟩ := K.mem j
  exact K.step (Y := []) j (.of_ext h) (h2.ext h) h1 (fun _ hy => by cases hy) List.nodup_nil
theorem JK.of_at (K : JK bm mc J) (j : J a X O w) {Y : List (Nat × List Value)} {l' : List Value} (H : At [bm] w w' (Y ++ [(bm, l')])) (hl : mc l') : J a (Y ++ X) O w' := by
  have hnd := H.nd
  rw [List.map_append, List.nodup_append] at hnd
  refine K.step j H.fr (H.blk (bm, l') (by simp)) hl (fun y hy => ⟨?_, H.blk y (List.mem_append_left _ hy)⟩) hnd.1
  rcases H.own y (List.mem_append_left _ hy) with h | h
  · exact h
  · exfalso
    rw [List.mem_singleton] at h
    exact hnd.2.2 y.1 (List.mem_map.2 ⟨y, hy, rfl⟩) bm (by simp) h
theorem JK.at0 (K : JK bm mc J) (j : J a X O w) : ∃ l, mc l ∧ At [bm] w w [(bm, l)] := by
  obtain ⟨l, h1, h2⟩ := K.mem j
  exact ⟨l, h1, At.start1 h2⟩
theorem JK.close (K : JK bm mc J) : ∀ (D : List Nat) {w : World}, J a X (D.map (fun r => (r, Obj.deferred (some []))) ++ O) w → openD D w ∧ J a X O (closeD D w)
  | [], _, j => ⟨trivial, j⟩
  | r :: D, w, j => by
    have h := K.obj j (r := r) (o := .deferred (some [])) (by simp)
    have j2 : J a X ((r, .deferred none) :: (D.map (fun r => (r, Obj.deferred (some []))) ++ O)) (w.putObj r (.deferred none)) := K.puO (o' := .deferred none) j (fun _ _ _ e => by cases e)
    obtain ⟨h1, h2⟩ := K.close D (K.sub j2 (fun _ h => h) (List.sublist_cons_self _ _))
    exact ⟨⟨h, h1⟩, h2⟩
theorem JK.ClP (K : JK bm mc J) (D : List Nat) (j : J a X (D.map (fun r => (r, Obj.deferred (some []))) ++ O) w) {Q : World → Prop} (k : ∀ w1, J a X O w1 → Q w1) : ClP D w Q := fun w1 h1 => by
  obtain ⟨h2, h3⟩ := K.close D (K.ext j h1)
  exact ⟨h2, k _ h3⟩
abbrev lpR (rec : Loop) : Obj := .loop { rec with state := .ready, pending := none }
abbrev lpB (rec : Loop) : Obj := .loop { rec with state := .busy, pending := none }
theorem lp_nc (rec : Loop) (st : LoopState) (pd : Option Code) : NC (.loop { rec with state := st, pending := pd }) := fun _ _ _ e => by cases e
theorem RoP.inJ (K : JK bm mc J) {l n m : Nat} {rec : Loop} (j : J a X ((l, lpR rec) :: O) w) {Q : Prop} (hn : n = m) (k : Q) : RoP l rec n m w Q := ⟨⟨none, K.obj j (by simp)⟩, hn, k⟩
theorem BeP.inJ (K : JK bm mc J) {l : Nat} {rec : Loop} (j : J a X ((l, lpR rec) :: O) w) {Q : World → Prop} (k : ∀ wb, J a X ((l, lpB rec) :: O) wb → Q wb) : BeP l rec w Q := fun w5 h5 => by
  have j5 := K.ext j h5
  exact ⟨none, K.obj j5 (by simp), k _ (K.puO j5 (lp_nc rec _ _))⟩
theorem FiP.inJ (K : JK bm mc J) {l : Nat} {rec : Loop} (j : J a X ((l, lpB rec) :: O) w) {R : Bool → World → Prop} (k : ∀ w7, J a X ((l, lpR rec) :: O) w7 → R true w7) : FiP l rec none w R := fun w6 h6 => by
  have j6 := K.ext j h6
  exact ⟨.busy, none, K.obj j6 (by simp), k _ (K.puO j6 (lp_nc rec _ _))⟩
theorem rxAfter.inJ (K : JK bm mc J) {l : Nat} {rec : Loop} (j : J a X ((l, lpR rec) :: O) w) {Kn Kr : World → Prop} {Kx : Nat → World → Prop} (k : ∀ w5, J a X O w5 → Kn w5) : rxAfter l rec w Kn Kx Kr :=
  ⟨.ready, .none, K.obj j (by simp), by simp, k _ (K.sub (K.puO j (lp_nc rec _ _)) (fun _ h => h) (List.sublist_cons_self _ _))⟩
/-- A range inside an iterator. -/
theorem RnP.inJ (K : JK bm mc J) {P : Program} {fid : FuncId} {args : Nat → List Value} {ps : Array Nat} {em : T → List Value} {Rd : Nat → Loop → T → World → (Bool → World → Prop) → Prop} {Af : Nat → Loop → World → Prop} {N : Nat} {X0 : List (Nat × List Value)} {xs : List T}
    (j : J a X O w) (It : ItJ P fid args em N bm mc X0 xs) (hX : ∀ x ∈ X0, x ∈ X) (hN : a.length + xs.length ≤ N)
    (hbody : ∀ b x X' O' l rec w3 (R : Bool → World → Prop), b.length < N → J b X' ((l, lpR rec) :: O') w3 → (∀ w', J (b ++ [x]) X' ((l, lpR rec) :: O') w' → R true w') → Rd l rec x w3 R)
    (haf : ∀ r rec w4, J (a ++ xs) X ((r + 1, lpR rec) :: (r, .deferred (some [])) :: O) w4 → Af r rec w4) : RnP P fid args ps w em Rd Af := by
  intro w1 h1 rec _ _ hst hpd hyield
  have hrec : rec = { rec with state := .ready, pending := .none } := by rw [← hst, ← hpd]
  have sz : (w1.alloc (.deferred (some []))).heap.size = w1.heap.size + 1 := alloc_size _ _
  have j1 : J a X ((w1.heap.size, .deferred (some [])) :: O) (w1.alloc (.deferred (some []))) := K.alO (K.ext j h1) (fun _ _ _ e => by cases e)
  have j2 := K.alO (o := lpR rec) j1 (lp_nc rec _ _)
  rw [sz] at j2
  let Z : List (Nat × Obj) := (w1.heap.size + 1, lpR rec) :: (w1.heap.size, .deferred (some [])) :: O
  let J2 : List T → List (Nat × List Value) → List (Nat × Obj) → World → Prop := fun b X' O' w => J b X' (O' ++ Z) w
  have K2 : JK bm mc J2 :=
    { step := fun h => K.step h
      mem := fun h => K.mem h
      blk := fun h => K.blk h
      obj := fun h hm => K.obj h (List.mem_append_left _ hm)
      alO := fun h ho => K.alO h ho
      puO := fun h ho => K.puO h ho
      sub := fun h hx ho => K.sub h hx (ho.append_right Z)
      perm := fun h ho => K.perm h (ho.append_right Z) }
  have Y2 : Yd P (w1.heap.size + 1) em N J2 := fun b x X' O' w3 R hb h hR => by
    refine hyield x w3 R ?_
    have hp : ((w1.heap.size + 1, lpR rec) :: (O' ++ ((w1.heap.size, .deferred (some [])) :: O))).Perm (O' ++ Z) := (List.perm_middle (l₁ := O') (a := (w1.heap.size + 1, lpR rec)) (l₂ := (w1.heap.size, .deferred (some [])) :: O)).symm
    exact hbody b x X' (O' ++ ((w1.heap.size, .deferred (some [])) :: O)) _ rec w3 R hb (K.perm h hp) (fun w' h' => hR w' (K.perm h' hp.symm))
  have hw : (w1.alloc (.deferred (some []))).alloc (.loop rec) = (w1.alloc (.deferred (some []))).alloc (lpR rec) := by
    show _ = (w1.alloc (.deferred (some []))).alloc (.loop { rec with state := .ready, pending := none })
    rw [← hrec]
  rw [hw]
  refine Calls.mono (It (w1.heap.size + 1) J2 K2 Y2 a X [] _ hN hX j2) ?_
  rintro e w4 ⟨v, he, h⟩
  exact ⟨v, he, haf _ _ _ h⟩
end
section
variable {D G : List Nat} {w0 w : World} {L : List (Nat × List Value)}
theorem Rdy.perm {l : Nat} {rec : Loop} {L' : List (Nat × List Value)} (h : Rdy D G w0 w L l rec) (hp : L'.Perm L) : Rdy D G w0 w L' l rec := ⟨h.1, h.2.1.perm hp, h.2.2⟩
theorem BeP.goO {l : Nat} {rec : Loop} {K : World → Prop} (h : Rdy D G w0 w L l rec) (k : ∀ wb, At (L.map (·.1)) wb wb L → Bsy D G w0 wb L l rec → Ob l w wb → K wb) : BeP l rec w K := fun w5 h5 => by
  obtain ⟨hl, H, hL⟩ := h
  have H5 := H.ext h5
  have hL5 := hL.ext h5
  have Hb := H5.putL hl hL5 .busy none
  exact ⟨none, hL5, k _ Hb.again ⟨hl, Hb, hL5.put .busy none⟩ ((Ob.of_ext h5).trans (Ob.put _ _ _))⟩
theorem Ob.of_at {l : Nat} {wb w6 : World} {L' : List (Nat × List Value)} (H : AtD D G w0 wb L) (H6 : At (L.map (·.1)) wb w6 L') : Ob l wb w6 := fun r o _ ho hh => by
  rw [H6.fr.block r (Array.getElem?_eq_some_iff.1 hh).1 (fun hm => ?_)]
  · exact hh
  · obtain ⟨x, hx, e⟩ := List.mem_map.1 hm
    exact AtD.blk_ne_obj (H.blk x hx) hh ho e
theorem FiP.nextO {l : Nat} {rec : Loop} {wb w6 : World} {L' : List (Nat × List Value)} {R : Bool → World → Prop} (h : Bsy D G w0 wb L l rec) (H6 : At (L.map (·.1)) wb w6 L') (k : ∀ w7, Rdy D G w0 w7 L' l rec → Ob l wb w7 → R true w7) : FiP l rec none w6 R := fun w7 h7 => by
  obtain ⟨hl, H, hL⟩ := h
  have H7 := (H.join (fun x hx => hx) H6).ext h7
  have hL6 : LoopAt w6 l rec .busy none := hL.same (H6.fr.block l hL.lt (loop_notin H hL).2)
  have hL7 := hL6.ext h7
  exact ⟨.busy, none, hL7, k _ ⟨hl, H7.putL hl hL7 _ _, hL7.put _ _⟩ (((Ob.of_at H H6).trans (Ob.of_ext h7)).trans (Ob.put _ _ _))⟩
/-- **A range that gathers.** -/
theorem RnP.gath {T : Type} {P : Program} {fid : FuncId} {args : Nat → List Value} {ps : Array Nat} {em : T → List Value} {Rd : Nat → Loop → T → World → (Bool → World → Prop) → Prop} {Af : Nat → Loop → World → Prop} {N bm : Nat} {mc : List Value → Prop} {X0 : List (Nat × List Value)} {xs : List T}
    {l0 : List Value} {Rg0 Lb : List (Nat × List Value)} (H : AtD D G w0 w (Rg0 ++ ((bm, l0) :: Lb))) (hm0 : mc l0) (It : ItJ P fid args em N bm mc X0 xs) (hX : ∀ x ∈ X0, x ∈ Lb) (hN : xs.length ≤ N) (Gi : List T → List (Nat × List Value) → Prop) (h0 : Gi [] Rg0)
    (hbody : ∀ b x Rg Z r l rec w3 (R : Bool → World → Prop), b.length < N → Gi b Rg → Rdy (r :: D) G w0 w3 (Rg ++ Z) l rec → (∀ Rg' w', Gi (b ++ [x]) Rg' → Rdy (r :: D) G w0 w' (Rg' ++ Z) l rec → Ob l w3 w' → R true w') → Rd l rec x w3 R)
    (haf : ∀ r rec w4 l' Rg, mc l' → Gi xs Rg → Rdy (r :: D) G w0 w4 (Rg ++ ((bm, l') :: Lb)) (r + 1) rec → Af r rec w4) : RnP P fid args ps w em Rd Af := by
  intro w1 h1 rec _ _ hst hpd hyield
  have H1 := H.ext h1
  have sz : (w1.alloc (.deferred (some []))).heap.size = w1.heap.size + 1 := alloc_size _ _
  have hrec : rec = { rec with state := .ready, pending := .none } := by rw [← hst, ← hpd]
  have hsz : w0.heap.size ≤ w1.heap.size := H1.fr.size
  have hW : Rdy (w1.heap.size :: D) G w0 ((w1.alloc (.deferred (some []))).alloc (.loop rec)) (Rg0 ++ ((bm, l0) :: Lb)) (w1.heap.size + 1) rec := by
    refine ⟨by omega, ?_, ?_⟩
    · have H2 := (H1.allocO (.deferred (some []))).allocO (.loop rec)
      refine ⟨H2.fr, H2.blk, H2.own, H2.nd, fun r hr => ?_⟩
      rcases List.mem_cons.1 hr with rfl | hr
      · exact ⟨hsz, (Ext.alloc _ _).obj (alloc_self w1 _)⟩
      · exact H2.mks r hr
    · have := alloc_self (w1.alloc (.deferred (some []))) (.loop rec)
      rw [sz] at this
      unfold LoopAt; rw [this, ← hrec]
  generalize hR : w1.heap.size = rr at *
  let J : List T → List (Nat × List Value) → List (Nat × Obj) → World → Prop := fun b X O w' => ∃ l' Rg Y, mc l' ∧ Gi b Rg ∧ Rdy (rr :: D) G w0 w' (Rg ++ ((bm, l') :: (Y ++ Lb))) (rr + 1) rec ∧ (∀ x ∈ X, x ∈ Y ++ Lb) ∧ (∀ x ∈ O, w'.heap[x.1]? = some x.2 ∧ NC x.2 ∧ w0.heap.size ≤ x.1 ∧ x.1 ≠ rr + 1 ∧ x.1 ∉ rr :: D) ∧ (O.map (·.1)).Nodup
  have K : JK bm mc J := by
    refine ⟨?_, ?_, ?_, ?_, ?_, ?_, ?_, ?_⟩
    · rintro b X O w2 w3 l2 Y2 ⟨l', Rg, Y, hm, hg, ⟨h1, h2, h3⟩, hx, ho, hn⟩ hf hb hl hy hyn
      have hbm : (bm, l') ∈ Rg ++ ((bm, l') :: (Y ++ Lb)) := by simp
      have keep : ∀ x ∈ Rg ++ (Y ++ Lb), Blk w3 x.1 x.2 ∧ x.1 < w2.heap.size := fun x hx => by
        have hx2 : x ∈ Rg ++ ((bm, l') :: (Y ++ Lb)) := by
          rcases List.mem_append.1 hx with h | h
          · exact List.mem_append_left _ h
          · exact List.mem_append_right _ (List.mem_cons_of_mem _ h)
        have hk := h2.blk x hx2
        refine ⟨hf.blk ?_ hk, hk.lt⟩
        intro hc
        rw [List.mem_singleton] at hc
        have hnd := h2.nd
        have hp : ((bm, l') :: (Rg ++ (Y ++ Lb))).Perm (Rg ++ ((bm, l') :: (Y ++ Lb))) := List.perm_middle.symm
        have hnd2 := ((hp.map (·.1)).nodup_iff).2 hnd
        rw [List.map_cons, List.nodup_cons] at hnd2
        exact hnd2.1 (List.mem_map.2 ⟨x, hx, hc⟩)
      refine ⟨l2, Rg, Y2 ++ Y, hl, hg, ⟨h1, ?_, ?_⟩, fun x hxx => ?_, fun x hxx => ?_, hn⟩
      · have hnd := h2.nd
        have hp : ((bm, l') :: (Rg ++ (Y ++ Lb))).Perm (Rg ++ ((bm, l') :: (Y ++ Lb))) := List.perm_middle.symm
        have hnd2 := ((hp.map (·.1)).nodup_iff).2 hnd
        have hp2 : ((bm, l2) :: (Y2 ++ (Rg ++ (Y ++ Lb)))).Perm (Rg ++ ((bm, l2) :: (Y2 ++ Y ++ Lb))) := by
          refine List.Perm.trans (List.Perm.cons _ ?_) List.perm_middle.symm
          rw [List.append_assoc, ← List.append_assoc Y2 Rg, ← List.append_assoc Rg Y2]
          exact List.perm_append_comm.append_right _
        refine AtD.perm (L := (bm, l2) :: (Y2 ++ (Rg ++ (Y ++ Lb)))) ?_ hp2.symm
        refine h2.frame hf (fun x hx => ?_) (fun r hr hx => ?_) (fun x hx => ?_) (fun x hx => ?_) ?_
        · rw [List.mem_singleton.1 hx]; exact h2.own (bm, l') hbm
        · rw [List.mem_singleton] at hx
          exact AtD.blk_ne_obj (h2.blk (bm, l') hbm) (h2.mks r hr).2 (fun _ _ _ hc => by cases hc) hx.symm
        · rcases List.mem_cons.1 hx with rfl | hx
          · exact hb
          · rcases List.mem_append.1 hx with hx | hx
            · exact (hy x hx).2
            · exact (keep x hx).1
        · rcases List.mem_cons.1 hx with rfl | hx
          · exact h2.own (bm, l') hbm
          · rcases List.mem_append.1 hx with hx | hx
            · exact .inl (Nat.le_trans h2.fr.size (hy x hx).1)
            · refine h2.own x ?_
              rcases List.mem_append.1 hx with h | h
              · exact List.mem_append_left _ h
              · exact List.mem_append_right _ (List.mem_cons_of_mem _ h)
        · rw [List.map_cons, List.nodup_cons] at hnd2
          rw [List.map_cons, List.map_append, List.nodup_cons, List.nodup_append]
          have fresh : ∀ x ∈ Y2, ∀ z, z < w2.heap.size → x.1 ≠ z := fun x hx z hz e => by
            have := (hy x hx).1; omega
          refine ⟨fun hm => ?_, hyn, hnd2.2, fun x hx z hz e => ?_⟩
          · rcases List.mem_append.1 hm with hm | hm
            · obtain ⟨x, hx, e⟩ := List.mem_map.1 hm
              exact fresh x hx bm (h2.blk (bm, l') hbm).lt e
            · exact hnd2.1 hm
          · obtain ⟨x1, hx1, e1⟩ := List.mem_map.1 hx
            obtain ⟨z1, hz1, e2⟩ := List.mem_map.1 hz
            exact fresh x1 hx1 z1.1 (keep z1 hz1).2 (by rw [e1, e2, e])
      · refine h3.same (hf.block _ h3.lt (fun hc => ?_))
        rw [List.mem_singleton] at hc
        exact AtD.blk_ne_obj (h2.blk (bm, l') hbm) h3 (fun _ _ _ hc => by cases hc) hc.symm
      · rcases List.mem_append.1 hxx with h | h
        · exact List.mem_append_left _ (List.mem_append_left _ h)
        · rcases List.mem_append.1 (hx x h) with h | h
          · exact List.mem_append_left _ (List.mem_append_right _ h)
          · exact List.mem_append_right _ h
      · obtain ⟨o1, o2, o3⟩ := ho x hxx
        refine ⟨?_, o2, o3⟩
        rw [hf.block x.1 (Array.getElem?_eq_some_iff.1 o1).1 (fun hc => ?_)]
        · exact o1
        · rw [List.mem_singleton] at hc
          exact AtD.blk_ne_obj (h2.blk (bm, l') hbm) o1 o2 hc.symm
    · rintro b X O w2 ⟨l', Rg, Y, hm, hg, hr, hx, ho, hn⟩
      exact ⟨l', hm, hr.2.1.blk (bm, l') (by simp)⟩
    · rintro b X O w2 x ⟨l', Rg, Y, hm, hg, hr, hx, ho, hn⟩ hxx
      have hp : ((bm, l') :: (Rg ++ (Y ++ Lb))).Perm (Rg ++ ((bm, l') :: (Y ++ Lb))) := List.perm_middle.symm
      have h2 := hr.2.1.perm hp
      have hmem : x ∈ Rg ++ (Y ++ Lb) := List.mem_append_right _ (hx x hxx)
      refine ⟨fun e => ?_, h2.blk x (List.mem_cons_of_mem _ hmem)⟩
      have hnd := h2.nd
      rw [List.map_cons, List.nodup_cons] at hnd
      exact hnd.1 (List.mem_map.2 ⟨x, hmem, e⟩)
    · rintro b X O w2 r o ⟨l', Rg, Y, hm, hg, hr, hx, ho, hn⟩ hmem
      exact (ho (r, o) hmem).1
    · rintro b X O w2 o ⟨l', Rg, Y, hm, hg, ⟨h1, h2, h3⟩, hx, ho, hn⟩ hnc
      have he := Ext.alloc w2 o
      refine ⟨l', Rg, Y, hm, hg, ⟨h1, h2.allocO o, h3.ext he⟩, hx, fun x hxx => ?_, ?_⟩
      · rcases List.mem_cons.1 hxx with rfl | hxx
        · refine ⟨alloc_self w2 o, hnc, h2.fr.size, fun e => ?_, fun hc => ?_⟩
          · have := h3.lt; simp only at e; omega
          · have := (Array.getElem?_eq_some_iff.1 (h2.mks _ hc).2).1
            simp only at this; omega
        · obtain ⟨o1, o2⟩ := ho x hxx
          exact ⟨he.obj o1, o2⟩
      · rw [List.map_cons, List.nodup_cons]
        refine ⟨fun hc => ?_, hn⟩
        obtain ⟨x, hxx, e⟩ := List.mem_map.1 hc
        have := (Array.getElem?_eq_some_iff.1 (ho x hxx).1).1
        simp only at e; omega
    · rintro b X O w2 r o o' ⟨l', Rg, Y, hm, hg, ⟨h1, h2, h3⟩, hx, ho, hn⟩ hnc
      obtain ⟨o1, o2, o3, o4, o5⟩ := ho (r, o) List.mem_cons_self
      rw [List.map_cons, List.nodup_cons] at hn
      refine ⟨l', Rg, Y, hm, hg, ⟨h1, h2.putObj o3 o1 o2 o5, ?_⟩, hx, fun x hxx => ?_, ?_⟩
      · unfold LoopAt; rw [putObj_ne (fun e => o4 e.symm)]; exact h3
      · rcases List.mem_cons.1 hxx with rfl | hxx
        · refine ⟨?_, hnc, o3, o4, o5⟩
          have hlt := (Array.getElem?_eq_some_iff.1 o1).1
          exact putObj_self hlt
        · obtain ⟨p1, p2⟩ := ho x (List.mem_cons_of_mem _ hxx)
          refine ⟨?_, p2⟩
          rw [putObj_ne (fun e => hn.1 (List.mem_map.2 ⟨x, hxx, e⟩))]; exact p1
      · rw [List.map_cons, List.nodup_cons]; exact hn
    · rintro b X O X' O' w2 ⟨l', Rg, Y, hm, hg, hr, hx, ho, hn⟩ hs hO
      exact ⟨l', Rg, Y, hm, hg, hr, fun x h => hx x (hs x h), fun x h => ho x (hO.subset h), (hO.map _).nodup hn⟩
    · rintro b X O O' w2 ⟨l', Rg, Y, hm, hg, hr, hx, ho, hn⟩ hp
      exact ⟨l', Rg, Y, hm, hg, hr, hx, fun x h => ho x (hp.subset h), (hp.map _).nodup_iff.2 hn⟩
  have Y : Yd P (rr + 1) em N J := by
    rintro b x X O w3 R hb ⟨l', Rg, Y, hm, hg, hr, hx, ho, hn⟩ hR
    refine hyield x w3 R (hbody b x Rg _ rr (rr + 1) rec w3 R hb hg hr fun Rg' w' hg' hr' hO => hR w' ⟨l', Rg', Y, hm, hg', hr', hx, fun x h => ?_, hn⟩)
    obtain ⟨o1, o2, o3, o4, o5⟩ := ho x h
    exact ⟨hO _ _ o4 o2 o1, o2, o3, o4, o5⟩
  refine Calls.mono (It (rr + 1) J K Y [] Lb [] _ (by simpa using hN) hX ⟨l0, Rg0, [], hm0, h0, hW, fun x h => h, fun x h => (by cases h), List.nodup_nil⟩) ?_
  rintro e w4 ⟨v, he, l', Rg, Y, hm, hg, hr, hx, ho, hn⟩
  refine ⟨v, he, haf rr rec w4 l' Rg hm hg ⟨hr.1, hr.2.1.sub ?_, hr.2.2⟩⟩
  exact List.Sublist.append (List.Sublist.refl _) (List.Sublist.cons_cons _ (List.sublist_append_right _ _))
end
end Go.RX
/-! Entries as numbers. -/
namespace Go.Proofs.YtkldededdgpmbaaGreat
set_option linter.unusedSimpArgs false
set_option linter.unusedVariables false
set_option maxRecDepth 100000
open Go.RX
def bB (b : Bool) : BitVec 64 := if b then 1#64 else 0#64
def nB (b : Bool) : Nat := if b then 1 else 0
theorem bB_nat (b : Bool) : (bB b).toNat = nB b := by cases b <;> rfl
theorem nB_le (b : Bool) : nB b ≤ 1 := by cases b <;> decide
theorem put_step {w v : BitVec 64} {lo sz : Int} {a n : Nat} (hf : fitsI lo sz = true) (hw : w.toNat = a) (ha : a < 2 ^ lo.toNat) (hv : v.toNat = n) (hn : n < 2 ^ sz.toNat) : (putB w lo sz v).toNat = 2 ^ lo.toNat * n + a := by
  rw [putB_nat hf (by rw [hw]; exact ha), hv, hw, Nat.mod_eq_of_lt hn]
theorem pack_word {p l : Bool} {r f : BitVec 64} {x y : Nat} (hr : r.toNat = x) (hx : x < 8) (hf : f.toNat = y) (hy : y < 4096) :
    (packB 0#64 0 [(bB p, 1), (r, 3), (bB l, 1), (0#64, 7), (f, 12)]).toNat = nB p + 2 * x + 16 * nB l + 4096 * y := by
  have hp := nB_le p
  have hl := nB_le l
  simp only [packB]
  rw [if_pos (by decide), if_pos (by decide), if_pos (by decide), if_pos (by decide), if_pos (by decide)]
  have e1 := put_step (w := 0#64) (lo := 0) (sz := 1) (by decide) (rfl : (0#64).toNat = 0) (by decide) (bB_nat p) (by show nB p < 2; omega)
  have e2 := put_step (lo := 0 + 1) (sz := 3) (by decide) e1 (by show 1 * nB p + 0 < 2; omega) hr (by show x < 8; omega)
  have e3 := put_step (lo := 0 + 1 + 3) (sz := 1) (by decide) e2 (by show 2 * x + (1 * nB p + 0) < 16; omega) (bB_nat l) (by show nB l < 2; omega)
  have e4 := put_step (lo := 0 + 1 + 3 + 1) (sz := 7) (v := 0#64) (by decide) e3 (by show 16 * nB l + (2 * x + (1 * nB p + 0)) < 32; omega) (rfl : (0#64).toNat = 0) (by decide)
  have e5 := put_step (lo := 0 + 1 + 3 + 1 + 7) (sz := 12) (by decide) e4 (by show 32 * 0 + (16 * nB l + (2 * x + (1 * nB p + 0))) < 4096; omega) hf (by show y < 4096; omega)
  rw [e5]
  show 4096 * y + (32 * 0 + (16 * nB l + (2 * x + (1 * nB p + 0)))) = _
  omega
theorem split_word (w : BitVec 64) : splitB w 0 [1, 3, 1, 7, 12, 40] = some [getB w 0 1, getB w 1 3, getB w 4 1, getB w 5 7, getB w 12 12, getB w 24 40] := by
  simp only [splitB]
  rw [if_pos (by decide), if_pos (by decide), if_pos (by decide), if_pos (by decide), if_pos (by decide), if_pos (by decide)]
  rfl
theorem get_num {w : BitVec 64} {lo sz : Int} (a b : Nat) (h : fitsI lo sz = true) (ha : 2 ^ lo.toNat = a) (hb : 2 ^ sz.toNat = b) : (getB w lo sz).toNat = w.toNat / a % b := by
  rw [getB_nat h, ha, hb]
end Go.Proofs.YtkldededdgpmbaaGreat
