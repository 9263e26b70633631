import Derived.Test.YtmhkofjlkfmncaaP6
import Derived.Test.YtmhkofjlkfmncaaLift
namespace Go.Proofs.Ytmhkofjlkfmncaa
open Go.RX
def shares_vc_ann : Nat → Slots := (fun | 4 => [(8, Go.RX.El.one Go.RX.Sc.bool), (9, Go.RX.El.one (Go.RX.Sc.int Go.IntKind.i64))] | _ => [])
theorem shares_vc (a b n : Int) (w : World) (Post : Bool → World → Prop) : (rxFn D4 shares_vc_ann 8 [.int .u16 a, .int .u16 b, .int .u8 n] w Post) = (
 ∀ (x : Int),
  x = convI IntKind.i64 n →
   ∀ (x_1 : Int),
    x_1 = remI x 4 →
     ∃ (I : Nat → Bool × Int × Unit → World → Prop),
      (∃ (n : Nat), ∀ (w1 : World), Ext w w1 → I n (true, 3, Unit.unit) w1) ∧
       ∀ (n : Nat) (s : Bool × Int × Unit) (w1 : World),
        I n s w1 →
         brP (decide (s.snd.fst ≥ x_1))
          (∀ (x : Int),
           x = convI IntKind.i64 a →
            (s.fst = true → True) ∧
             ∀ (x_2 : Int),
              x_2 = indexI x s.snd.fst →
               ∀ (x : Int),
                x = convI IntKind.i64 b →
                 (s.fst = true → True) ∧ ∀ (x_3 : Int), x_3 = indexI x s.snd.fst → ∀ (x : Int), x = subI IntKind.i64 s.snd.fst 1 → ∀ (w3 : World), Ext w1 w3 → ∃ (n' : Nat), n' < n ∧ I n' (s.fst && x_2 == x_3, x, Unit.unit) w3)
          (True ∧
           ∀ (x : Int),
            x = spanI x_1 →
             ∀ (x_2 : Int),
              x_2 = convI IntKind.i64 a →
               (decide (x > 0) = true → x ≠ 0) ∧
                ∀ (x_3 : Int),
                 x_3 = quoI IntKind.i64 x_2 x →
                  ∀ (x_4 : Int),
                   x_4 = convI IntKind.i64 b →
                    (decide (x > 0) = true → x ≠ 0) ∧
                     ∀ (x_5 : Int), x_5 = quoI IntKind.i64 x_4 x → ((decide (x > 0) && s.fst == (x_3 == x_5)) = true → True) ∧ ∀ (w1_1 : World), Ext w1 w1_1 → Post (decide (x > 0) && s.fst == (x_3 == x_5) && true) w1_1)) := by kernel_rfl
/-- So many pages have a place alike. -/
def PN : Nat → Int
  | 0 => 1
  | 1 => 16
  | 2 => 256
  | 3 => 4096
  | _ => 65536
theorem u16_wf {x : Int} (h : (Lit.int .u16 x).wf = true) : 0 ≤ x ∧ x < 65536 := by
  simp [Lit.wf, IntKind.min, IntKind.max, IntKind.bits, IntKind.signed] at h
  omega
theorem span_PN {m : Nat} (h : m ≤ 3) : spanI (m : Int) = PN m := by
  have : m = 0 ∨ m = 1 ∨ m = 2 ∨ m = 3 := by omega
  rcases this with rfl | rfl | rfl | rfl <;> decide
theorem PN_step {m : Nat} (h : m ≤ 3) : PN (m + 1) = 16 * PN m ∧ 1 ≤ PN m ∧ PN m ≤ 4096 := by
  have : m = 0 ∨ m = 1 ∨ m = 2 ∨ m = 3 := by omega
  rcases this with rfl | rfl | rfl | rfl <;> decide
theorem index_PN {x : Int} {m : Nat} (hx : 0 ≤ x ∧ x < 65536) (h : m ≤ 3) : indexI x (m : Int) = x / PN m % 16 := by
  unfold indexI
  rw [if_pos (by omega), span_PN h]
theorem div_PN {x : Int} {m : Nat} (h : m ≤ 3) : x / PN (m + 1) = x / PN m / 16 := by
  have : m = 0 ∨ m = 1 ∨ m = 2 ∨ m = 3 := by omega
  rcases this with rfl | rfl | rfl | rfl <;> (simp only [PN]; omega)
theorem same_step {x y : Int} {m : Nat} (h : m ≤ 3) : ((x / PN (m + 1) == y / PN (m + 1)) && (x / PN m % 16 == y / PN m % 16)) = (x / PN m == y / PN m) := by
  rw [div_PN h, div_PN h, Bool.eq_iff_iff, Bool.and_eq_true, beq_iff_eq, beq_iff_eq, beq_iff_eq]
  omega
theorem u8_wf' {x : Int} (h : (Lit.int .u8 x).wf = true) : 0 ≤ x ∧ x < 256 := by
  simp [Lit.wf, IntKind.min, IntKind.max, IntKind.bits, IntKind.signed] at h
  omega
theorem quo_i64 {x s : Int} (hx : 0 ≤ x ∧ x < 65536) (hs : 1 ≤ s) : quoI .i64 x s = x / s := by
  unfold quoI
  rw [Int.tdiv_eq_ediv_of_nonneg (by omega)]
  have h1 : 0 ≤ x / s := Int.ediv_nonneg (by omega) (by omega)
  have h2 : x / s ≤ x := Int.ediv_le_self _ (by omega)
  exact wrap_i64_id (by omega) (by omega)
theorem shares_row (a : Int) (ha : (Lit.int .u16 a).wf = true) (b : Int) (hb : (Lit.int .u16 b).wf = true) (n : Int) (hn : (Lit.int .u8 n).wf = true) (w : World) :
    CallsR Try.prog 8 (.el (.one .bool)) [.int .u16 a, .int .u16 b, .int .u8 n] w (fun b w' => b = true ∧ Ext w w') := by
  refine rxFn_ok (C := D4) (ann := shares_vc_ann) (Eq.mpr (shares_vc a b n w _) ?_)
  have ba := u16_wf ha
  have bb := u16_wf hb
  have bn := u8_wf' hn
  intro x ex lv elv
  rw [conv_i64' (by omega) (by omega)] at ex
  have hr : remI x 4 = x % 4 := Int.tmod_eq_emod_of_nonneg (by omega)
  rw [hr] at elv
  obtain ⟨v, hv⟩ : ∃ v : Nat, lv = v := ⟨lv.toNat, by omega⟩
  have hv3 : v ≤ 3 := by omega
  rw [hv]
  refine ⟨fun m s w' => Ext w w' ∧ ∃ j : Nat, s.2.1 = (j : Int) - 1 ∧ m + v = j ∧ j ≤ 4 ∧ s.1 = (a / PN j == b / PN j), ⟨4 - v, fun w1 h1 => ⟨h1, 4, rfl, by omega, Nat.le_refl _, ?_⟩⟩, ?_⟩
  · show true = (a / 65536 == b / 65536)
    symm; rw [beq_iff_eq]; omega
  rintro m ⟨sm, k', u⟩ w1 ⟨hw, j, hk, hm, hj, hs⟩
  simp only at hk hs
  dsimp only
  refine brP_intro (fun h => ?_) (fun h => ⟨trivial, fun s es x2 e2 => ?_⟩)
  · simp only [decide_eq_true_eq] at h
    obtain ⟨k, rfl⟩ : ∃ k, j = k + 1 := ⟨j - 1, by omega⟩
    have hk3 : k ≤ 3 := by omega
    have el : k' = (k : Int) := by omega
    subst el
    intro y ey
    rw [conv_i64' (by omega) (by omega)] at ey
    refine ⟨fun _ => trivial, fun x2 e2 z ez => ?_⟩
    rw [conv_i64' (by omega) (by omega)] at ez
    subst ey; subst ez
    refine ⟨fun _ => trivial, fun x3 e3 x4 e4 w3 h3 => ⟨m - 1, by omega, hw.trans h3, k, ?_, by omega, by omega, ?_⟩⟩
    · rw [e4, subI_i64 (by omega) (by omega)]
    · show (sm && x2 == x3) = _
      rw [hs, e2, e3, index_PN ba hk3, index_PN bb hk3]
      exact same_step hk3
  · simp only [decide_eq_false_iff_not] at h
    have ej : j = v := by omega
    subst ej
    rw [span_PN hv3] at es
    have hp := PN_step hv3
    rw [conv_i64' (by omega) (by omega)] at e2
    refine ⟨fun _ => by omega, fun x3 e3 x4 e4 => ⟨fun _ => by omega, fun x5 e5 => ⟨fun _ => trivial, fun w2 h2 => ⟨?_, hw.trans h2⟩⟩⟩⟩
    rw [conv_i64' (by omega) (by omega)] at e4
    rw [e2, quo_i64 ba (by omega), es] at e3
    rw [e4, quo_i64 bb (by omega), es] at e5
    have hpos : s > 0 := by omega
    rw [e3, e5, hs, decide_eq_true hpos]
    simp
end Go.Proofs.Ytmhkofjlkfmncaa
