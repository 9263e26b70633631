import Derived.Test.YtffnfcokgemgjaaBits
import Derived.Test.YtffnfcokgemgjaaProg
namespace Go.Proofs.Ytffnfcokgemgjaa
set_option linter.unusedSimpArgs false
set_option linter.unusedVariables false
set_option maxRecDepth 100000
open Go.RX
theorem mx : Try.prog.follows .mixedOrders = true := by kernel_rfl
noncomputable def C0 : Cfg Try.prog := { tab := [], quiet := [], sh := [], mixed := mx }
theorem fits_vc (low size : Int) (w : World) (Post : Bool → World → Prop) : (rxFn C0 (fun _ => []) 66 [.int .i64 low, .int .i64 size] w Post) = (
 EnP w fun (w1 : World) => Post (decide (low ≥ 0) && decide (low < 64) && decide (size ≥ 1) && decide (size ≤ subI IntKind.i64 64 low)) w1) := by kernel_rfl
theorem is_vc (low size : Int) (w : World) (Post : Bool → World → Prop) : (rxFn C0 (fun _ => []) 69 [.int .i64 low, .int .i64 size] w Post) = (
 EnP w fun (w1 : World) => Post (decide (low ≥ 0) && decide (low < 64) && decide (size ≥ 1) && decide (size ≤ 64) && decide (addI IntKind.i64 low size ≤ 64)) w1) := by kernel_rfl
def bit_vc_ann : Nat → Slots := (fun | 2 => [(0, Go.RX.El.one (Go.RX.Sc.int Go.IntKind.u64)), (5, Go.RX.El.one (Go.RX.Sc.int Go.IntKind.i64))] | _ => [])
theorem bit_vc (v i : Int) (w : World) (Post : Bool → World → Prop) : (rxFn C0 bit_vc_ann 70 [.int .u64 v, .int .i64 i] w Post) = (
 ∃ (I : Nat → Int × Int × Unit → World → Prop),
  (∃ (n : Nat), ∀ (w1 : World), Ext w w1 → I n (v, 0, Unit.unit) w1) ∧
   ∀ (n : Nat) (s : Int × Int × Unit) (w1 : World),
    I n s w1 → brP (decide (s.snd.fst < i)) (∀ (w3 : World), Ext w1 w3 → ∃ (n' : Nat), n' < n ∧ I n' (quoI IntKind.u64 s.fst 2, addI IntKind.i64 s.snd.fst 1, Unit.unit) w3) (EnP w1 fun (w1 : World) => Post (remI s.fst 2 == 1) w1)) := by kernel_rfl
def one_vc_ann : Nat → Slots := (fun | 3 => [(3, Go.RX.El.one (Go.RX.Sc.int Go.IntKind.u64)), (4, Go.RX.El.one (Go.RX.Sc.int Go.IntKind.i64))] | _ => [])
theorem one_vc (i : Int) (w : World) (Post : Int → World → Prop) : (rxFn C0 one_vc_ann 71 [.int .i64 i] w Post) = (
 ∃ (I : Nat → Int × Int × Unit → World → Prop),
  (∃ (n : Nat), ∀ (w1 : World), Ext w w1 → I n (1, 0, Unit.unit) w1) ∧
   ∀ (n : Nat) (s : Int × Int × Unit) (w1 : World),
    I n s w1 → brP (decide (s.snd.fst < i)) (∀ (w3 : World), Ext w1 w3 → ∃ (n' : Nat), n' < n ∧ I n' (mulI IntKind.u64 2 s.fst, addI IntKind.i64 s.snd.fst 1, Unit.unit) w3) (EnP w1 fun (w1 : World) => Post s.fst w1)) := by kernel_rfl
theorem fitsI_eq (lo sz : Int) : (decide (lo ≥ 0) && decide (lo < 64) && decide (sz ≥ 1) && decide (sz ≤ subI .i64 64 lo)) = fitsI lo sz := by
  unfold fitsI
  by_cases h : 0 ≤ lo ∧ lo < 64
  · rw [subI_i64 (by omega) (by omega)]
  · by_cases h1 : lo ≥ 0 <;> by_cases h2 : lo < 64 <;> simp [h1, h2] <;> omega
noncomputable def eFits : Entry Try.prog where
  f := 66
  fn l := match l with
    | [.int .i64 lo, .int .i64 sz] => some (True, .bool (fitsI lo sz))
    | _ => none
  ok args pre v h _ w := by
    split at h
    · rename_i lo sz
      cases h
      refine entry_of (x := fitsI lo sz) (rxFn_ok (C := C0) (ann := fun _ => []) (Eq.mpr (fits_vc lo sz w _) fun w1 h1 => ⟨fitsI_eq lo sz, h1⟩))
    · cases h
theorem isI_eq (lo sz : Int) : (decide (lo ≥ 0) && decide (lo < 64) && decide (sz ≥ 1) && decide (sz ≤ 64) && decide (addI .i64 lo sz ≤ 64)) = fitsI lo sz := by
  unfold fitsI
  by_cases h : 0 ≤ lo ∧ lo < 64 ∧ 1 ≤ sz ∧ sz ≤ 64
  · rw [addI_i64 (by omega) (by omega)]
    obtain ⟨h1, h2, h3, h4⟩ := h
    simp [h1, h2, h3, h4]; omega
  · by_cases h1 : lo ≥ 0 <;> by_cases h2 : lo < 64 <;> by_cases h3 : sz ≥ 1 <;> by_cases h4 : sz ≤ 64 <;> simp [h1, h2, h3, h4] <;> omega
noncomputable def eIs : Entry Try.prog where
  f := 69
  fn l := match l with
    | [.int .i64 lo, .int .i64 sz] => some (True, .bool (fitsI lo sz))
    | _ => none
  ok args pre v h _ w := by
    split at h
    · rename_i lo sz
      cases h
      refine entry_of (x := fitsI lo sz) (rxFn_ok (C := C0) (ann := fun _ => []) (Eq.mpr (is_vc lo sz w _) fun w1 h1 => ⟨isI_eq lo sz, h1⟩))
    · cases h
theorem bit_ok (b : BitVec 64) (i : Int) (hi : i ≤ 64) (w : World) : CallsR Try.prog 70 (.el (.one .bool)) [.int .u64 (U b), .int .i64 i] w (fun x w' => x = b.getLsbD i.toNat ∧ Ext w w') := by
  refine rxFn_ok (C := C0) (ann := bit_vc_ann) (Eq.mpr (bit_vc (U b) i w _) ?_)
  refine ⟨fun n s w' => Ext w w' ∧ ∃ k : Nat, s.2.1 = k ∧ n + k = i.toNat ∧ s.1 = U (b >>> k), ⟨i.toNat, fun w1 h1 => ⟨h1, 0, rfl, rfl, by simp⟩⟩, ?_⟩
  rintro n ⟨x, j, u⟩ w1 ⟨hw, k, hk, hn, hx⟩
  simp only at hk hx
  subst hk; subst hx
  dsimp only
  refine brP_intro (fun h => ?_) (fun h => ?_)
  · simp only [decide_eq_true_eq] at h
    intro w3 h3
    refine ⟨n - 1, by omega, hw.trans h3, k + 1, ?_, by omega, ?_⟩
    · show addI _ _ _ = _
      rw [addI_i64 (by omega) (by omega)]; rfl
    · show quoI .u64 _ 2 = _
      rw [half, BitVec.shiftRight_add]
  · simp only [decide_eq_false_iff_not] at h
    intro w2 h2
    refine ⟨?_, hw.trans h2⟩
    show (remI _ 2 == 1) = _
    rw [odd]
    simp only [BitVec.getLsbD_ushiftRight, Nat.add_zero]
    congr 1; omega
noncomputable def eBit : Entry Try.prog where
  f := 70
  fn l := match l with
    | [.int .u64 b, .int .i64 i] => some (U (B b) = b ∧ i ≤ 64, .bool ((B b).getLsbD i.toNat))
    | _ => none
  ok args pre v h hp w := by
    split at h
    · rename_i b i
      cases h
      obtain ⟨h1, h2⟩ := hp
      have := entry_of (bit_ok (B b) i h2 w)
      rw [h1] at this
      exact this
    · cases h
theorem one_ok (i : Int) (hi : i ≤ 64) (w : World) : CallsR Try.prog 71 (.el (.one (.int .u64))) [.int .i64 i] w (fun x w' => x = U (oneB i.toNat) ∧ Ext w w') := by
  refine rxFn_ok (C := C0) (ann := one_vc_ann) (Eq.mpr (one_vc i w _) ?_)
  refine ⟨fun n s w' => Ext w w' ∧ ∃ k : Nat, s.2.1 = k ∧ n + k = i.toNat ∧ s.1 = U (oneB k), ⟨i.toNat, fun w1 h1 => ⟨h1, 0, rfl, rfl, rfl⟩⟩, ?_⟩
  rintro n ⟨x, j, u⟩ w1 ⟨hw, k, hk, hn, hx⟩
  simp only at hk hx
  subst hk; subst hx
  dsimp only
  refine brP_intro (fun h => ?_) (fun h => ?_)
  · simp only [decide_eq_true_eq] at h
    intro w3 h3
    refine ⟨n - 1, by omega, hw.trans h3, k + 1, ?_, by omega, ?_⟩
    · show addI _ _ _ = _
      rw [addI_i64 (by omega) (by omega)]; rfl
    · show mulI .u64 2 _ = _
      rw [show (2 : Int) = U 2#64 from rfl, mulI_U, oneB_succ]
  · simp only [decide_eq_false_iff_not] at h
    intro w2 h2
    refine ⟨?_, hw.trans h2⟩
    show U (oneB k) = _
    congr 2; omega
noncomputable def eOne : Entry Try.prog where
  f := 71
  fn l := match l with
    | [.int .i64 i] => some (i ≤ 64, .int .u64 (U (oneB i.toNat)))
    | _ => none
  ok args pre v h hp w := by
    split at h
    · rename_i i
      cases h
      exact entry_of (one_ok i hp w)
    · cases h
noncomputable def C1 : Cfg Try.prog := { C0 with tab := [eFits, eIs, eBit, eOne] }
theorem mask_vc (low size : Int) (w : World) (Post : Int → World → Prop) : (rxFn C1 (fun _ => []) 72 [.int .i64 low, .int .i64 size] w Post) = (
 True ∧ brP (!fitsI low size) (EnP w fun (w1 : World) => Post 0 w1) (0 ≤ subI IntKind.i64 64 size ∧ 0 ≤ low ∧ EnP w fun (w1 : World) => Post (shlI IntKind.u64 (shrI IntKind.u64 18446744073709551615 (subI IntKind.i64 64 size)) low) w1)) := by kernel_rfl
def rget_vc_ann : Nat → Slots := (fun | 3 => [(7, Go.RX.El.one (Go.RX.Sc.int Go.IntKind.u64)), (8, Go.RX.El.one (Go.RX.Sc.int Go.IntKind.i64))] | _ => [])
theorem rget_vc (v low size : Int) (w : World) (Post : Int → World → Prop) : (rxFn C1 rget_vc_ann 59 [.int .u64 v, .int .i64 low, .int .i64 size] w Post) = (
 ∃ (I : Nat → Int × Int × Unit → World → Prop),
  (∃ (n : Nat), ∀ (w1 : World), Ext w w1 → I n (0, 0, Unit.unit) w1) ∧
   ∀ (n : Nat) (s : Int × Int × Unit) (w1 : World),
    I n s w1 →
     (decide (s.snd.fst < size) = true → True) ∧
      brP (decide (s.snd.fst < size) && fitsI low size)
       ((U (B v) = v ∧ addI IntKind.i64 low s.snd.fst ≤ 64) ∧
        brP ((B v).getLsbD (addI IntKind.i64 low s.snd.fst).toNat) (s.snd.fst ≤ 64 ∧ ∀ (w3 : World), Ext w1 w3 → ∃ (n' : Nat), n' < n ∧ I n' (addI IntKind.u64 s.fst (U (oneB (Int.toNat s.snd.fst))), addI IntKind.i64 s.snd.fst 1, Unit.unit) w3)
         (∀ (w3 : World), Ext w1 w3 → ∃ (n' : Nat), n' < n ∧ I n' (s.fst, addI IntKind.i64 s.snd.fst 1, Unit.unit) w3))
       (EnP w1 fun (w1 : World) => Post s.fst w1)) := by kernel_rfl
theorem mask_ok (lo sz : Int) (w : World) : CallsR Try.prog 72 (.el (.one (.int .u64))) [.int .i64 lo, .int .i64 sz] w (fun x w' => x = U (maskB lo sz) ∧ Ext w w') := by
  refine rxFn_ok (C := C1) (ann := fun _ => []) (Eq.mpr (mask_vc lo sz w _) ⟨trivial, ?_⟩)
  refine brP_intro (fun h => ?_) (fun h => ?_)
  · intro w1 h1
    refine ⟨?_, h1⟩
    rw [maskB_none (by simpa using h)]; rfl
  · have h' : fitsI lo sz = true := by simpa using h
    have h2 := fitsI_iff.1 h'
    refine ⟨by rw [subI_i64 (by omega) (by omega)]; omega, h2.1, fun w1 h1 => ⟨ones_shift h', h1⟩⟩
noncomputable def eMask : Entry Try.prog where
  f := 72
  fn l := match l with
    | [.int .i64 lo, .int .i64 sz] => some (True, .int .u64 (U (maskB lo sz)))
    | _ => none
  ok args pre v h hp w := by
    split at h
    · rename_i lo sz
      cases h
      exact entry_of (mask_ok lo sz w)
    · cases h
/-- A loop that counts up to a field's size. -/
theorem upto {lo sz : Int} (k : Nat) (h : (decide ((k : Int) < sz) && fitsI lo sz) = true) : fitsI lo sz = true ∧ lo.toNat + k < 64 ∧ k < sz.toNat ∧ addI .i64 lo (k : Int) = ((lo.toNat + k : Nat) : Int) ∧ addI .i64 (k : Int) 1 = ((k + 1 : Nat) : Int) := by
  simp only [Bool.and_eq_true, decide_eq_true_eq] at h
  obtain ⟨h1, h2⟩ := h
  have h3 := fitsI_iff.1 h2
  refine ⟨h2, by omega, by omega, ?_, ?_⟩
  · rw [addI_i64 (by omega) (by omega)]; omega
  · rw [addI_i64 (by omega) (by omega)]; omega
theorem upto_end {lo sz : Int} {k : Nat} (hk : k ≤ sz.toNat) (h : (decide ((k : Int) < sz) && fitsI lo sz) = false) (hf : fitsI lo sz = true) : k = sz.toNat := by
  simp only [hf, Bool.and_true, decide_eq_false_iff_not] at h
  omega
theorem rget_ok (v : BitVec 64) (lo sz : Int) (w : World) : CallsR Try.prog 59 (.el (.one (.int .u64))) [.int .u64 (U v), .int .i64 lo, .int .i64 sz] w (fun x w' => x = U (getB v lo sz) ∧ Ext w w') := by
  refine rxFn_ok (C := C1) (ann := rget_vc_ann) (Eq.mpr (rget_vc (U v) lo sz w _) ?_)
  refine ⟨fun n s w' => Ext w w' ∧ ∃ k : Nat, s.2.1 = k ∧ n + k = sz.toNat ∧ s.1 = U (if fitsI lo sz = true then Gk v lo.toNat k else 0#64), ⟨sz.toNat, fun w1 h1 => ⟨h1, 0, rfl, rfl, by rw [Gk_zero]; simp; rfl⟩⟩, ?_⟩
  rintro n ⟨x, j, u⟩ w1 ⟨hw, k, hk, hn, hx⟩
  simp only at hk hx
  subst hk; subst hx
  dsimp only
  refine ⟨fun _ => trivial, brP_intro (fun h => ?_) (fun h => ?_)⟩
  · obtain ⟨hf, h1, h2, h3, h4⟩ := upto k h
    rw [if_pos hf, h3, B_U]
    refine ⟨⟨rfl, by omega⟩, brP_intro (fun hb => ⟨by omega, fun w3 hw3 => ⟨n - 1, by omega, hw.trans hw3, k + 1, h4, by omega, ?_⟩⟩) (fun hb => fun w3 hw3 => ⟨n - 1, by omega, hw.trans hw3, k + 1, h4, by omega, ?_⟩)⟩
    · show addI .u64 _ _ = _
      rw [addI_U, if_pos hf, Int.toNat_natCast, Gk_one h1 (by rw [Int.toNat_natCast] at hb; exact hb)]
    · show U _ = _
      rw [if_pos hf, Gk_none h1 (by rw [Int.toNat_natCast] at hb; exact hb)]
  · intro w2 h2
    refine ⟨?_, hw.trans h2⟩
    by_cases hf : fitsI lo sz = true
    · rw [if_pos hf, getB_Gk hf, upto_end (by omega) h hf]
    · rw [if_neg hf, getB_none (by simpa using hf)]
noncomputable def eRGet : Entry Try.prog where
  f := 59
  fn l := match l with
    | [.int .u64 v, .int .i64 lo, .int .i64 sz] => some (U (B v) = v, .int .u64 (U (getB (B v) lo sz)))
    | _ => none
  ok args pre v h hp w := by
    split at h
    · rename_i v lo sz
      cases h
      have := entry_of (rget_ok (B v) lo sz w)
      rw [hp] at this; exact this
    · cases h
noncomputable def C2 : Cfg Try.prog := { C0 with tab := [eFits, eIs, eBit, eOne, eMask, eRGet] }
theorem get_vc (v low size : Int) (w : World) (Post : Int → World → Prop) : (rxFn C2 (fun _ => []) 67 [.int .u64 v, .int .i64 low, .int .i64 size] w Post) = (
 True ∧ 0 ≤ maxI 0 (minI low 63) ∧ EnP w fun (w1 : World) => Post (shrI IntKind.u64 (andI IntKind.u64 v (U (maskB low size))) (maxI 0 (minI low 63))) w1) := by kernel_rfl
theorem get_ok (v : BitVec 64) (lo sz : Int) (w : World) : CallsR Try.prog 67 (.el (.one (.int .u64))) [.int .u64 (U v), .int .i64 lo, .int .i64 sz] w (fun x w' => x = U (getB v lo sz) ∧ Ext w w') := by
  refine rxFn_ok (C := C2) (ann := fun _ => []) (Eq.mpr (get_vc (U v) lo sz w _) ⟨trivial, by unfold maxI; split <;> omega, fun w1 h1 => ⟨?_, h1⟩⟩)
  rw [andI_U, shrI_U]; rfl
noncomputable def eGet : Entry Try.prog where
  f := 67
  fn l := match l with
    | [.int .u64 v, .int .i64 lo, .int .i64 sz] => some (U (B v) = v, .int .u64 (U (getB (B v) lo sz)))
    | _ => none
  ok args pre v h hp w := by
    split at h
    · rename_i v lo sz
      cases h
      have := entry_of (get_ok (B v) lo sz w)
      rw [hp] at this; exact this
    · cases h
noncomputable def C3 : Cfg Try.prog := { C0 with tab := [eFits, eIs, eBit, eOne, eMask, eRGet, eGet] }
end Go.Proofs.Ytffnfcokgemgjaa
