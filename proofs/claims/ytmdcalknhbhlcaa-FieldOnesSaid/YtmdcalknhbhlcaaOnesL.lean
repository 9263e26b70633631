import Derived.Test.YtmdcalknhbhlcaaLaw
import Derived.Test.YtmdcalknhbhlcaaPlain
import Derived.Test.YtmdcalknhbhlcaaLift
namespace Go.Proofs.Ytmdcalknhbhlcaa
open Go.RX
def onesl_vc_ann : Nat → Slots := (fun | 4 => [(6, Go.RX.El.one (Go.RX.Sc.int Go.IntKind.u64)), (7, Go.RX.El.one (Go.RX.Sc.int Go.IntKind.i64))] | _ => [])
theorem onesl_vc (v x : Int) (w : World) (Post : Bool → World → Prop) : (rxFn C5 onesl_vc_ann 7 [.int .u64 v, .int .u64 x] w Post) = (
 ∀ (w1 : World),
  Ext w w1 →
   CallsR Try.prog 18 (Sh.el (El.one Sc.slice)) [Value.int IntKind.u64 v] w1
    fun (x_1 : Option Addr × Nat × Nat) (w2 : World) =>
    ∃ (I : Nat → Int × Int × Unit → World → Prop),
     (∃ (n : Nat), ∀ (w1 : World), Ext w2 w1 → I n (0, 0, Unit.unit) w1) ∧
      ∀ (n : Nat) (s : Int × Int × Unit) (w1 : World),
       I n s w1 →
        ∀ (x_2 : Int),
         x_2 = (↑x_1.snd.fst : Int) →
          brP (decide (s.snd.fst < x_2))
           ((x_1.fst.isSome = true ∧ 0 ≤ s.snd.fst ∧ s.snd.fst < (↑x_1.snd.fst : Int)) ∧
            ∃ (x : Int),
             rdAt w1 (addP x_1.fst (Int.toNat s.snd.fst * 1)) (El.one (Sc.int IntKind.i64)) x ∧
              ((if false = true then decide (x < 0) else !decide (x < 0)) = true →
                x_1.fst.isSome = true ∧ 0 ≤ s.snd.fst ∧ s.snd.fst < (↑x_1.snd.fst : Int)) ∧
               ∃ (x_3 : Int),
                ((if false = true then decide (x < 0) else !decide (x < 0)) = true →
                  rdAt w1 (addP x_1.fst (Int.toNat s.snd.fst * 1)) (El.one (Sc.int IntKind.i64)) x_3) ∧
                 (((if false = true then decide (x < 0) || decide (x_3 > 63)
                     else !(decide (x < 0) || decide (x_3 > 63))) &&
                     if true = true then decide (s.snd.fst > 0) else !decide (s.snd.fst > 0)) =
                    true →
                   x_1.fst.isSome = true ∧
                    0 ≤ subI IntKind.i64 s.snd.fst 1 ∧ subI IntKind.i64 s.snd.fst 1 < (↑x_1.snd.fst : Int)) ∧
                  ∃ (x_4 : Int),
                   (((if false = true then decide (x < 0) || decide (x_3 > 63)
                       else !(decide (x < 0) || decide (x_3 > 63))) &&
                       if true = true then decide (s.snd.fst > 0) else !decide (s.snd.fst > 0)) =
                      true →
                     rdAt w1 (addP x_1.fst ((subI IntKind.i64 s.snd.fst 1).toNat * 1)) (El.one (Sc.int IntKind.i64))
                      x_4) ∧
                    (((if false = true then decide (x < 0) || decide (x_3 > 63)
                        else !(decide (x < 0) || decide (x_3 > 63))) &&
                        if true = true then decide (s.snd.fst > 0) else !decide (s.snd.fst > 0)) =
                       true →
                      x_1.fst.isSome = true ∧ 0 ≤ s.snd.fst ∧ s.snd.fst < (↑x_1.snd.fst : Int)) ∧
                     ∃ (x_5 : Int),
                      (((if false = true then decide (x < 0) || decide (x_3 > 63)
                          else !(decide (x < 0) || decide (x_3 > 63))) &&
                          if true = true then decide (s.snd.fst > 0) else !decide (s.snd.fst > 0)) =
                         true →
                        rdAt w1 (addP x_1.fst (Int.toNat s.snd.fst * 1)) (El.one (Sc.int IntKind.i64)) x_5) ∧
                       brP (decide (x < 0) || decide (x_3 > 63) || decide (s.snd.fst > 0) && decide (x_4 ≥ x_5))
                        (∀ (w1_1 : World), Ext w1 w1_1 → Post false w1_1)
                        ((x_1.fst.isSome = true ∧ 0 ≤ s.snd.fst ∧ s.snd.fst < (↑x_1.snd.fst : Int)) ∧
                         ∃ (x : Int),
                          rdAt w1 (addP x_1.fst (Int.toNat s.snd.fst * 1)) (El.one (Sc.int IntKind.i64)) x ∧
                           (U (B s.fst) = s.fst ∧ U (B 1) = 1) ∧
                            ∀ (x_6 : Int),
                             x_6 = U (putB (B s.fst) x 1 (B 1)) →
                              ∀ (x : Int),
                               x = addI IntKind.i64 s.snd.fst 1 →
                                ∀ (w3 : World), Ext w1 w3 → ∃ (n' : Nat), n' < n ∧ I n' (x_6, x, Unit.unit) w3))
           (∀ (x_3 : Int),
            x_3 = (↑x_1.snd.fst : Int) →
             ((if true = true then s.fst == v else !s.fst == v) = true → U (B v) = v) ∧
              ∀ (x_4 : Int),
               x_4 = (↑(onesL (B v)).length : Int) →
                ∀ (x_5 : Int),
                 x_5 = orI IntKind.u64 v x →
                  ((if true = true then s.fst == v && x_3 == x_4 else !(s.fst == v && x_3 == x_4)) = true →
                    U (B x_5) = x_5) ∧
                   ∀ (x_6 : Int),
                    x_6 = (↑(onesL (B x_5)).length : Int) →
                     ∀ (x_7 : Int),
                      x_7 = andI IntKind.u64 v x →
                       ((if true = true then s.fst == v && x_3 == x_4 else !(s.fst == v && x_3 == x_4)) = true →
                         U (B x_7) = x_7) ∧
                        ∀ (x_8 : Int),
                         x_8 = (↑(onesL (B x_7)).length : Int) →
                          ∀ (x_9 : Int),
                           x_9 = addI IntKind.i64 x_6 x_8 →
                            ((if true = true then s.fst == v && x_3 == x_4 else !(s.fst == v && x_3 == x_4)) = true →
                              U (B v) = v) ∧
                             ∀ (x_10 : Int),
                              x_10 = (↑(onesL (B v)).length : Int) →
                               ((if true = true then s.fst == v && x_3 == x_4 else !(s.fst == v && x_3 == x_4)) = true →
                                 U (B x) = x) ∧
                                ∀ (x_11 : Int),
                                 x_11 = (↑(onesL (B x)).length : Int) →
                                  ∀ (x : Int),
                                   x = addI IntKind.i64 x_10 x_11 →
                                    ((if true = true then s.fst == v && x_3 == x_4 && x_9 == x
                                       else !(s.fst == v && x_3 == x_4 && x_9 == x)) =
                                       true →
                                      True) ∧
                                     ∀ (w1_1 : World),
                                      Ext w1 w1_1 → Post (s.fst == v && x_3 == x_4 && x_9 == x && true) w1_1)) := by kernel_rfl
theorem sorted_get {l : List Nat} (h : l.Pairwise (· < ·)) {i : Nat} (hi : i + 1 < l.length) : l[i] < l[i + 1] := by
  rw [List.pairwise_iff_getElem] at h
  exact h i (i + 1) (by omega) hi (by omega)
theorem onesl_row (v x : BitVec 64) (w : World) :
    CallsR Try.prog 7 (.el (.one .bool)) [.int .u64 (U v), .int .u64 (U x)] w (fun b w' => b = true ∧ Ext w w') := by
  refine rxFn_ok (C := C5) (ann := onesl_vc_ann) (Eq.mpr (onesl_vc (U v) (U x) w _) ?_)
  intro w1 h1
  refine (onesf_ok v w1).mono ?_
  rintro ⟨p, n, c⟩ w2 ⟨ho, h2⟩
  have hn : n = (onesL v).length := by have := ho.len; simpa [embN] using this
  have hl := onesL_len v
  have hlt : ∀ i (h : i < (onesL v).length), (onesL v)[i] < 64 := fun i h => BitVec.lt_of_getLsbD (mem_onesL.1 (List.getElem_mem h))
  dsimp only
  refine ⟨fun k s w' => Ext w2 w' ∧ ∃ (i : Nat) (b : BitVec 64), s.1 = U b ∧ s.2.1 = i ∧ k + i = n ∧ ∀ j, j < 64 → b.getLsbD j = decide (j ∈ (onesL v).take i), ⟨n, fun w3 h3 => ⟨h3, 0, 0#64, rfl, rfl, rfl, fun j _ => by simp⟩⟩, ?_⟩
  rintro k ⟨y, i', u⟩ w3 ⟨h3, i, b, e1, e2, hk, hb⟩
  simp only at e1 e2
  subst e1; subst e2
  dsimp only
  intro x2 ex2
  subst ex2
  refine brP_intro (fun h => ?_) (fun h => ?_)
  · simp only [decide_eq_true_eq] at h
    have hi : i < (onesL v).length := by omega
    have rd : ∀ i (h : i < (onesL v).length), p.isSome = true ∧ rdAt w3 (addP p (i * 1)) (.one (.int .i64)) (((onesL v)[i] : Nat) : Int) := fun i h => (ho.sl.ext h3) i _ (by simp [embN, h])
    have r := rd i hi
    have i1 : p.isSome = true ∧ (0 : Int) ≤ i ∧ (i : Int) < n := ⟨r.1, by omega, by omega⟩
    have hlt' := hlt i hi
    have hprev : ∃ q : Int, (0 < i → q < (((onesL v)[i] : Nat) : Int) ∧ 0 ≤ subI .i64 (i : Int) 1 ∧ subI .i64 (i : Int) 1 < n ∧ rdAt w3 (addP p ((subI .i64 (i : Int) 1).toNat * 1)) (.one (.int .i64)) q) := by
      by_cases h0 : 0 < i
      · refine ⟨(((onesL v)[i - 1] : Nat) : Int), fun _ => ?_⟩
        rw [subI_i64 (by omega) (by omega)]
        have r' := rd (i - 1) (by omega)
        have hs := sorted_get (onesL_sorted v) (i := i - 1) (by omega)
        have e : (onesL v)[i - 1 + 1]'(by omega) = (onesL v)[i] := by congr 1; omega
        rw [e] at hs
        refine ⟨by omega, by omega, by omega, ?_⟩
        rw [show ((i : Int) - 1).toNat = i - 1 by omega]
        exact r'.2
      · exact ⟨0, fun h => absurd h h0⟩
    obtain ⟨q, hq⟩ := hprev
    have gq : ∀ {g : Bool}, (g && if true = true then decide ((i : Int) > 0) else !decide ((i : Int) > 0)) = true → 0 < i := fun {g} hg => by
      simp only [if_true, Bool.and_eq_true, decide_eq_true_eq] at hg
      omega
    refine ⟨i1, _, r.2, fun _ => i1, _, fun _ => r.2, fun g => ⟨r.1, (hq (gq g)).2.1, (hq (gq g)).2.2.1⟩, q, fun g => (hq (gq g)).2.2.2, fun _ => i1, _, fun _ => r.2, brP_intro (fun hbad => ?_) (fun _ => ⟨i1, _, r.2, ⟨by rw [B_U], by decide +kernel⟩, fun x6 e6 x7 e7 w4 h4 => ⟨k - 1, by omega, h3.trans h4, i + 1, putB b ((onesL v)[i] : Nat) 1 (B 1), ?_, ?_, by omega, ?_⟩⟩)⟩
    · exfalso
      simp only [Bool.or_eq_true, Bool.and_eq_true, decide_eq_true_eq] at hbad
      rcases hbad with (hbad | hbad) | ⟨h0, hbad⟩
      · omega
      · omega
      · have := (hq (by omega)).1
        omega
    · rw [e6, B_U]
    · rw [e7, addI_i64 (by omega) (by omega)]; rfl
    · intro j hj
      have hf : fitsI (((onesL v)[i] : Nat) : Int) 1 = true := fitsI_iff.2 (by omega)
      rw [putB_bit hf hj, hb j hj, List.take_add_one, List.getElem?_eq_getElem hi]
      simp only [Option.toList, List.mem_append, List.mem_singleton]
      by_cases e : j = (onesL v)[i]
      · rw [if_pos (by omega), show j - ((((onesL v)[i] : Nat) : Int)).toNat = 0 by omega]
        have : (B 1).getLsbD 0 = true := by decide +kernel
        rw [this]; simp [e]
      · rw [if_neg (by omega)]
        simp [e]
  · simp only [decide_eq_false_iff_not] at h
    have hin : i = n := by omega
    have hbv : b = v := by
      apply BitVec.eq_of_getLsbD_eq
      intro j hj
      rw [hb j hj, List.take_of_length_le (by omega)]
      cases hv : v.getLsbD j
      · simp [mem_onesL, hv]
      · simp [mem_onesL, hv]
    subst hbv
    intro x3 e3
    rw [B_U]
    refine ⟨fun _ => rfl, fun x4 e4 x5 e5 => ?_⟩
    rw [orI_U] at e5
    subst e5
    refine ⟨fun _ => by rw [B_U], fun x6 e6 x7 e7 => ?_⟩
    rw [andI_U] at e7
    subst e7
    rw [B_U] at e6
    refine ⟨fun _ => by rw [B_U], fun x8 e8 x9 e9 => ⟨fun _ => rfl, fun x10 e10 => ⟨fun _ => by rw [B_U], fun x11 e11 x12 e12 => ⟨fun _ => trivial, fun w4 h4 => ⟨?_, ((h1.trans h2).trans h3).trans h4⟩⟩⟩⟩⟩
    rw [B_U] at e8 e11
    have hadd := onesL_add b x
    have l1 := onesL_len (b ||| x)
    have l2 := onesL_len (b &&& x)
    have l3 := onesL_len x
    rw [addI_i64 (by omega) (by omega)] at e9
    rw [addI_i64 (by omega) (by omega)] at e12
    have t1 : x3 = x4 := by omega
    have t2 : x9 = x12 := by omega
    subst t1; subst t2
    simp
end Go.Proofs.Ytmdcalknhbhlcaa
