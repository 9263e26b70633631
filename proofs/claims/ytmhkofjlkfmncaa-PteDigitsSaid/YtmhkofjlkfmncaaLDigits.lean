import Derived.Test.YtmhkofjlkfmncaaP6
import Derived.Test.YtmhkofjlkfmncaaLift
namespace Go.Proofs.Ytmhkofjlkfmncaa
open Go.RX
def digits_vc_ann : Nat → Slots := (fun | 6 => [(7, Go.RX.El.one (Go.RX.Sc.int Go.IntKind.i64)), (8, Go.RX.El.one Go.RX.Sc.bool), (9, Go.RX.El.one (Go.RX.Sc.int Go.IntKind.i64))] | _ => [])
theorem digits_vc (a b : Int) (w : World) (Post : Bool → World → Prop) : (rxFn D4 digits_vc_ann 6 [.int .u16 a, .int .u16 b] w Post) = (
 ∀ (x : Int),
  x = convI IntKind.i64 a →
   ∀ (x_1 : Int),
    x_1 = convI IntKind.i64 b →
     ∃ (I : Nat → Int × Bool × Int × Unit → World → Prop),
      (∃ (n : Nat), ∀ (w1 : World), Ext w w1 → I n (0, true, 3, Unit.unit) w1) ∧
       ∀ (n : Nat) (s : Int × Bool × Int × Unit) (w1 : World),
        I n s w1 →
         brP (decide (s.snd.snd.fst ≥ 0))
          (True ∧
           ∀ (x_2 : Int),
            x_2 = indexI x s.snd.snd.fst →
             True ∧
              ∀ (x_3 : Int),
               x_3 = spanI s.snd.snd.fst →
                ∀ (x_4 : Int),
                 x_4 = mulI IntKind.i64 x_2 x_3 →
                  ∀ (x_5 : Int),
                   x_5 = addI IntKind.i64 s.fst x_4 →
                    (s.snd.fst = true → True) ∧
                     ∀ (x_6 : Int),
                      x_6 = indexI x s.snd.snd.fst →
                       (s.snd.fst = true → True) ∧
                        ∀ (x_7 : Int),
                         x_7 = indexI x_1 s.snd.snd.fst →
                          True ∧
                           ∀ (x_8 : Int),
                            x_8 = atI 7 x s.snd.snd.fst →
                             True ∧
                              ∀ (x_9 : Int),
                               x_9 = indexI x s.snd.snd.fst →
                                ∀ (x : Int),
                                 x = addI IntKind.i64 112 x_9 →
                                  brP (x_8 != x) (∀ (w1_1 : World), Ext w1 w1_1 → Post false w1_1)
                                   (∀ (x : Int), x = subI IntKind.i64 s.snd.snd.fst 1 → ∀ (w3 : World), Ext w1 w3 → ∃ (n' : Nat), n' < n ∧ I n' (x_5, s.snd.fst && x_6 == x_7, x, Unit.unit) w3))
          (((s.fst == x && s.snd.fst == (x == x_1)) = true → True) ∧ ∀ (w1_1 : World), Ext w1 w1_1 → Post (s.fst == x && s.snd.fst == (x == x_1) && true) w1_1)) := by kernel_rfl
/-- So many pages have a place alike. -/
def PN : Nat → Int
  | 0 => 1
  | 1 => 16
  | 2 => 256
  | 3 => 4096
  | _ => 65536
theorem u16_wf {x : Int} (h : (Lit.int .u16 x).wf = true) : 0 ≤ x ∧ x < 65536 := by
  simp [Lit.wf, IntKind.min, IntKind.max, IntKind.bits, IntKind.signed] at h
  omega
theorem span_PN {m : Nat} (h : m ≤ 3) : spanI (m : Int) = PN m := by
  have : m = 0 ∨ m = 1 ∨ m = 2 ∨ m = 3 := by omega
  rcases this with rfl | rfl | rfl | rfl <;> decide
theorem PN_step {m : Nat} (h : m ≤ 3) : PN (m + 1) = 16 * PN m ∧ 1 ≤ PN m ∧ PN m ≤ 4096 := by
  have : m = 0 ∨ m = 1 ∨ m = 2 ∨ m = 3 := by omega
  rcases this with rfl | rfl | rfl | rfl <;> decide
theorem index_PN {x : Int} {m : Nat} (hx : 0 ≤ x ∧ x < 65536) (h : m ≤ 3) : indexI x (m : Int) = x / PN m % 16 := by
  unfold indexI
  rw [if_pos (by omega), span_PN h]
theorem div_PN {x : Int} {m : Nat} (h : m ≤ 3) : x / PN (m + 1) = x / PN m / 16 := by
  have : m = 0 ∨ m = 1 ∨ m = 2 ∨ m = 3 := by omega
  rcases this with rfl | rfl | rfl | rfl <;> (simp only [PN]; omega)
theorem same_step {x y : Int} {m : Nat} (h : m ≤ 3) : ((x / PN (m + 1) == y / PN (m + 1)) && (x / PN m % 16 == y / PN m % 16)) = (x / PN m == y / PN m) := by
  rw [div_PN h, div_PN h, Bool.eq_iff_iff, Bool.and_eq_true, beq_iff_eq, beq_iff_eq, beq_iff_eq]
  omega
theorem sum_step {x : Int} {m : Nat} (h : m ≤ 3) : x / PN (m + 1) * PN (m + 1) + x / PN m % 16 * PN m = x / PN m * PN m := by
  rw [div_PN h, (PN_step h).1, ← Int.mul_assoc, ← Int.add_mul]
  congr 1
  omega
theorem dig_bd {x : Int} {m : Nat} (hx : 0 ≤ x ∧ x < 65536) (h : m ≤ 4) : 0 ≤ x / PN m * PN m ∧ x / PN m * PN m ≤ x := by
  have : m = 0 ∨ m = 1 ∨ m = 2 ∨ m = 3 ∨ m = 4 := by omega
  rcases this with rfl | rfl | rfl | rfl | rfl <;> (simp only [PN]; omega)
theorem dig_bd2 {x : Int} {m : Nat} (h : m ≤ 3) : 0 ≤ x / PN m % 16 * PN m ∧ x / PN m % 16 * PN m ≤ 65536 := by
  have : m = 0 ∨ m = 1 ∨ m = 2 ∨ m = 3 := by omega
  rcases this with rfl | rfl | rfl | rfl <;> (simp only [PN]; omega)
theorem digits_row (a : Int) (ha : (Lit.int .u16 a).wf = true) (b : Int) (hb : (Lit.int .u16 b).wf = true) (w : World) :
    CallsR Try.prog 6 (.el (.one .bool)) [.int .u16 a, .int .u16 b] w (fun b w' => b = true ∧ Ext w w') := by
  refine rxFn_ok (C := D4) (ann := digits_vc_ann) (Eq.mpr (digits_vc a b w _) ?_)
  have ba := u16_wf ha
  have bb := u16_wf hb
  intro x ex y ey
  rw [conv_i64' (by omega) (by omega)] at ex ey
  subst ex; subst ey
  refine ⟨fun m s w' => Ext w w' ∧ s.2.2.1 = (m : Int) - 1 ∧ m ≤ 4 ∧ s.1 = x / PN m * PN m ∧ s.2.1 = (x / PN m == y / PN m), ⟨4, fun w1 h1 => ⟨h1, rfl, Nat.le_refl _, ?_, ?_⟩⟩, ?_⟩
  · show (0 : Int) = x / 65536 * 65536
    omega
  · show true = (x / 65536 == y / 65536)
    symm; rw [beq_iff_eq]; omega
  rintro m ⟨n, sm, lev, u⟩ w1 ⟨hw, hl, hm, hn, hs⟩
  simp only at hl hn hs
  dsimp only
  refine brP_intro (fun h => ?_) (fun h => ⟨fun _ => trivial, fun w2 h2 => ⟨?_, hw.trans h2⟩⟩)
  · simp only [decide_eq_true_eq] at h
    obtain ⟨k, rfl⟩ : ∃ k, m = k + 1 := ⟨m - 1, by omega⟩
    have hk : k ≤ 3 := by omega
    have el : lev = (k : Int) := by omega
    subst el
    have iX := index_PN ba hk
    have iY := index_PN bb hk
    have b1 := dig_bd ba hm
    have b2 := dig_bd2 (x := x) hk
    have b3 := sum_step (x := x) hk
    have b4 := dig_bd ba (m := k) (by omega)
    refine ⟨trivial, fun x2 e2 => ⟨trivial, fun x3 e3 x4 e4 x5 e5 => ⟨fun _ => trivial, fun x6 e6 => ⟨fun _ => trivial, fun x7 e7 => ⟨trivial, fun x8 e8 => ⟨trivial, fun x9 e9 x10 e10 => ?_⟩⟩⟩⟩⟩⟩
    rw [span_PN hk] at e3
    rw [iX] at e2 e6 e9
    rw [iY] at e7
    subst e2; subst e3
    rw [mulI_i64 (by omega) (by omega)] at e4
    rw [hn, e4, addI_i64 (by omega) (by omega), b3] at e5
    have h16 := Int.emod_nonneg (x / PN k) (show (16 : Int) ≠ 0 by decide)
    have h17 := Int.emod_lt_of_pos (x / PN k) (show (0 : Int) < 16 by decide)
    have e8' : x8 = 112 + x / PN k % 16 := by
      rw [e8]
      unfold atI
      rw [iX, if_neg (by omega)]; rfl
    rw [addI_i64 (by omega) (by omega)] at e10
    refine brP_intro (fun hne => ?_) (fun _ x11 e11 w3 h3 => ⟨k, by omega, hw.trans h3, ?_, by omega, e5, ?_⟩)
    · exfalso
      rw [bne_iff_ne] at hne
      exact hne (by omega)
    · rw [e11, subI_i64 (by omega) (by omega)]
    · show (sm && x6 == x7) = _
      rw [hs, e6, e7]
      exact same_step hk
  · simp only [decide_eq_false_iff_not] at h
    have h0 : m = 0 := by omega
    subst h0
    have e1 : n = x := by rw [hn]; show x / 1 * 1 = x; omega
    have e2 : sm = (x == y) := by
      rw [hs]
      show (x / 1 == y / 1) = (x == y)
      rw [Int.ediv_one, Int.ediv_one]
    rw [e1, e2]; simp
end Go.Proofs.Ytmhkofjlkfmncaa
