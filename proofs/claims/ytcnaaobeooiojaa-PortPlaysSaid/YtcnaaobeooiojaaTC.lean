import Derived.Test.YtcnaaobeooiojaaTB
namespace Go.Proofs.Ytcnaaobeooiojaa
set_option linter.unusedSimpArgs false
set_option linter.unusedVariables false
open Go.RX
theorem u8_rng {x : Int} (h : (Lit.int .u8 x).wf = true) : 0 ≤ x ∧ x < 256 := by
  simp [Lit.wf, IntKind.min, IntKind.max, IntKind.bits, IntKind.signed] at h
  omega
def es : Nat → List PT
  | 0 => k0
  | i + 1 => (bindS 3 (openS 3 (es i) 1 2).2 2 1 (i : Nat)).2
/-- Three ports of 1, bound to three of 2: which are pending, and masked. -/
def evS (a b c d e f : Bool) : List PT := [(2, 2, 0, a, d, ()), (2, 2, 1, b, e, ()), (2, 2, 2, c, f, ())] ++ (List.replicate 29 zP ++ ([(2, 1, 0, false, false, ()), (2, 1, 1, false, false, ()), (2, 1, 2, false, false, ())] ++ List.replicate 477 zP))
theorem es_ok : ∀ i, okT 3 (es i)
  | 0 => okT_zero (by decide) (by decide)
  | i + 1 => ((es_ok i).openS _ _).bindS _ _ _
theorem es3 : es 3 = evS false false false false false false := by decide +kernel
theorem ev_send0 (a b c d e f : Bool) : (sendS 3 (evS a b c d e f) 2 0).2 = evS true b c d e f := by kernel_rfl
theorem ev_send1 (a b c d e f : Bool) : (sendS 3 (evS a b c d e f) 2 1).2 = evS a true c d e f := by kernel_rfl
theorem ev_send2 (a b c d e f : Bool) : (sendS 3 (evS a b c d e f) 2 2).2 = evS a b true d e f := by kernel_rfl
theorem ev_mask0 (a b c d e f x : Bool) : (maskS 3 (evS a b c d e f) 1 0 x).2 = evS a b c x e f := by kernel_rfl
theorem ev_mask1 (a b c d e f x : Bool) : (maskS 3 (evS a b c d e f) 1 1 x).2 = evS a b c d x f := by kernel_rfl
theorem ev_mask2 (a b c d e f x : Bool) : (maskS 3 (evS a b c d e f) 1 2 x).2 = evS a b c d e x := by kernel_rfl
theorem ev_pend : ∀ a b c d e f : Bool, (pendL 3 (evS a b c d e f) 2).length = 0 := by decide +kernel
/-- The first of the ports from t on that tells an event. -/
def wanF (a b c d e f : Bool) : Nat → Int
  | 0 => if a && !d then 0 else if b && !e then 1 else if c && !f then 2 else -1
  | 1 => if b && !e then 1 else if c && !f then 2 else -1
  | 2 => if c && !f then 2 else -1
  | _ => -1
theorem ev_take : ∀ a b c d e f : Bool, takeS 3 (evS a b c d e f) 1 = ((if wanF a b c d e f 0 < 0 then 0 else wanF a b c d e f 0, decide (wanF a b c d e f 0 ≥ 0)), evS (a && !(wanF a b c d e f 0 == 0)) (b && !(wanF a b c d e f 0 == 1)) (c && !(wanF a b c d e f 0 == 2)) d e f) := by
  intro a b c d e f
  cases a <;> cases b <;> cases c <;> cases d <;> cases e <;> cases f <;> kernel_rfl
theorem wan_rng : ∀ a b c d e f : Bool, wanF a b c d e f 0 = -1 ∨ wanF a b c d e f 0 = 0 ∨ wanF a b c d e f 0 = 1 ∨ wanF a b c d e f 0 = 2 := by decide +kernel
theorem tv_stB {D G : List Nat} {w0 w : World} {L : List (Nat × List Value)} (j : Nat) (H : AtD D G w0 w L) {b : Nat} {bs : List Bool} {v : Int} (x : Bool) (hL : L[j]? = some (b, bcs bs)) (hl : v.toNat < bs.length) {K : World → Prop}
    (hK : ∀ w1, AtD D G w0 w1 (L.set j (b, bcs (bs.set v.toNat x))) → K w1) : StP w (addP (some ⟨b, 0, none⟩) (v.toNat * 1)) [.bool x] K := by
  refine StP.oneA j H hL rfl ?_ fun w1 h1 => hK w1 ?_
  · rw [Nat.blt_eq]; unfold bcs; rw [List.length_map]; omega
  · have e : (bcs bs).set (0 + v.toNat * 1) (.bool x) = bcs (bs.set v.toNat x) := by unfold bcs; rw [List.map_set, Nat.zero_add, Nat.mul_one]
    rw [e] at h1; exact h1
def tevI (w : World) (q : Nat) (s : Int × Unit) (w' : World) (bp ba bm : Nat) : Prop :=
  ∃ (i : Nat) (a b c d e f : Bool), s.1 = i ∧ q + i = 100 ∧ okT 3 (evS a b c d e f) ∧ At [] w w' [(bm, bcs [d, e, f]), (ba, bcs [a, b, c]), (bp, pcs 3 (evS a b c d e f))]
theorem tev_row (p : Option Addr) (m c : Nat) (xs : List Int) (hm : m = xs.length) (hmx : m ≤ maxLen) {w : World} (hx : Sl w (.one (.int .u8)) p xs) (hxw : ∀ x ∈ xs, (Lit.int .u8 x).wf = true) :
    CallsR Try.prog 5 (.el (.one .bool)) [.slice p m c] w (fun b w' => b = true ∧ Ext w w') := by
  refine rxFn_ok (C := R2) (ann := tev_vc_ann) (Eq.mpr (tev_vc p m c w _) ?_)
  have H := At.start [] w
  refine pnewp_at H 3 (fun h => absurd h (by decide)) fun _ _ bp w1 H => brP_neg rfl ?_
  refine ⟨fun q s w' => ∃ i : Nat, s.1 = i ∧ q + i = 3 ∧ At [] w w' [(bp, pcs 3 (es i))], ⟨3, fun w2 h2 => ⟨0, rfl, rfl, H.ext h2⟩⟩, ?_⟩
  clear H
  rintro q ⟨i', u⟩ w2 ⟨i, hi, hq, H⟩
  simp only at hi
  subst hi
  dsimp only
  refine brP_intro (fun c1 => ?_) (fun c1 => ?_)
  · have hi3 : i = 0 ∨ i = 1 ∨ i = 2 := by simp at c1; omega
    refine popen_at H 0 rfl (es_ok i).tookS 1 2 fun w3 H => ?_
    refine pbind_at H 0 rfl ((es_ok i).openS 1 2).tookS 2 1 i fun w4 H => ?_
    have hv : (openS 3 (es i) 1 2).1 = ((i : Int), 0) ∧ (bindS 3 (openS 3 (es i) 1 2).2 2 1 i).1 = ((i : Int), 0) := by
      rcases hi3 with rfl | rfl | rfl <;> decide +kernel
    rw [hv.1, hv.2]
    refine brP_neg (by simp) fun w5 h5 => ⟨q - 1, by omega, i + 1, by rw [addI_i64 (by omega) (by omega)]; rfl, by omega, H.ext h5⟩
  have hi3 : i = 3 := by simp at c1; omega
  subst hi3
  rw [es3] at H
  have hT0 := es_ok 3
  rw [es3] at hT0
  refine AlP.go H fun ba w3 H => StP.all 0 H rfl rfl rfl fun w4 H => AlP.go H fun bm w5 H => StP.all 0 H rfl rfl rfl fun w6 H => ?_
  refine ⟨fun q s w' => tevI w q s w' bp ba bm, ⟨100, fun w7 h7 => ⟨0, false, false, false, false, false, false, rfl, rfl, hT0, H.ext h7⟩⟩, ?_⟩
  clear H hT0
  rintro q2 ⟨i', u⟩ w7 ⟨i, a, b, c, d, e, f, hi, hq2, hT, H⟩
  simp only at hi
  subst hi
  dsimp only
  refine brP_intro (fun c2 => ?_) (fun c2 => CaP.val H (s := .el (.one .bool)) true (fun w3 H => tknown_ok w3) fun w4 H => EnP.go H fun w5 H => ⟨rfl, H.all⟩)
  have him : i < m ∧ i < 100 := by simp only [Bool.and_eq_true, decide_eq_true_eq] at c2; omega
  have hxi : xs[i]? = some xs[i] := List.getElem?_eq_getElem (by omega)
  have hwx := u8_rng (hxw xs[i] (List.getElem_mem (by omega)))
  generalize xs[i] = x at hxi hwx
  have hs := hx.ext H.all
  have hrd : rdAt w7 (addP p (((i : Nat) : Int).toNat * 1)) (.one (.int .u8)) x := (hs i _ hxi).2
  have ixx : p.isSome = true ∧ 0 ≤ (i : Int) ∧ (i : Int) < (m : Int) := ⟨(hs i _ hxi).1, by omega, by omega⟩
  refine ⟨ixx, LdP.of x hrd ⟨ixx, LdP.of x hrd ?_⟩⟩
  have eq1 : quoI .u8 x 4 = x / 4 := by
    unfold quoI
    rw [Int.tdiv_eq_ediv_of_nonneg (by omega)]
    show IntKind.u8.wrap (x / 4) = x / 4
    simp only [IntKind.wrap, IntKind.signed, IntKind.bits]
    have : (x / 4) % 2 ^ 8 = x / 4 := by omega
    simpa using this
  have eq2 : convI .i64 (x / 4) = x / 4 := wrap_i64_id (by omega) (by omega)
  have eq3 : remI (x / 4) 3 = (x / 4) % 3 := by unfold remI; exact Int.tmod_eq_emod_of_nonneg (by omega)
  rw [eq1, eq2, eq3]
  have hk3 : (x / 4) % 3 = 0 ∨ (x / 4) % 3 = 1 ∨ (x / 4) % 3 = 2 := by omega
  generalize (x / 4) % 3 = k at hk3
  have e5 : addI .i64 (i : Int) 1 = ((i + 1 : Nat) : Int) := by rw [addI_i64 (by omega) (by omega)]; rfl
  have tail : ∀ (a b c d e f : Bool), okT 3 (evS a b c d e f) → ∀ w8, At [] w w8 [(bm, bcs [d, e, f]), (ba, bcs [a, b, c]), (bp, pcs 3 (evS a b c d e f))] →
      CaP Try.prog 26 (.el (.one .slice)) [.pointer (some ⟨bp, 0, none⟩), .int .i64 2] w8 fun (x : Option Addr × Nat × Nat) (w2 : World) =>
        brP ((↑x.snd.fst : Int) != 0) (EnP w2 fun (w1 : World) => false = true ∧ Ext w w1) (∀ (w3 : World), Ext w2 w3 → ∃ (n' : Nat), n' < q2 ∧ tevI w n' (addI .i64 (i : Int) 1, ()) w3 bp ba bm) := fun a b c d e f hT w8 H => by
    refine ppend_at H 2 rfl hT.tookS 2 fun r rows w9 H hr => brP_neg (by rw [hr.1, ev_pend]; rfl) fun w10 h10 => ⟨q2 - 1, by omega, i + 1, a, b, c, d, e, f, e5, by omega, hT, (H.sub (List.sublist_append_left _ rows)).ext h10⟩
  refine brP_intro (fun c3 => ?_) (fun c3 => brP_intro (fun c4 => ?_) (fun c4 => ?_))
  · refine psend_at H 2 rfl hT 2 k fun w8 H => ⟨⟨rfl, by omega, by omega⟩, tv_stB 1 H true rfl (by show k.toNat < 3; omega) fun w9 H => ?_⟩
    have hT' := hT.sendS 2 k
    rcases hk3 with rfl | rfl | rfl
    · rw [ev_send0] at hT'
      have H : At [] w w9 [(bm, bcs [d, e, f]), (ba, bcs [true, b, c]), (bp, pcs 3 (sendS 3 (evS a b c d e f) 2 0).2)] := H
      rw [ev_send0] at H
      exact tail _ _ _ _ _ _ hT' w9 H
    · rw [ev_send1] at hT'
      have H : At [] w w9 [(bm, bcs [d, e, f]), (ba, bcs [a, true, c]), (bp, pcs 3 (sendS 3 (evS a b c d e f) 2 1).2)] := H
      rw [ev_send1] at H
      exact tail _ _ _ _ _ _ hT' w9 H
    · rw [ev_send2] at hT'
      have H : At [] w w9 [(bm, bcs [d, e, f]), (ba, bcs [a, b, true]), (bp, pcs 3 (sendS 3 (evS a b c d e f) 2 2).2)] := H
      rw [ev_send2] at H
      exact tail _ _ _ _ _ _ hT' w9 H
  · have hkl : k.toNat < 3 := by omega
    refine ⟨⟨rfl, by omega, by omega⟩, LdP.atA 0 H rfl (tv_el (bs := [d, e, f]) hkl) ⟨⟨rfl, by omega, by omega⟩, tv_stB 0 H _ rfl hkl fun w8 H => ⟨⟨rfl, by omega, by omega⟩, LdP.atA 0 H rfl (tv_el (by rw [List.length_set]; exact hkl)) ?_⟩⟩⟩
    refine pmask_at H 2 rfl hT.tookS 1 k _ fun w9 H => ?_
    rcases hk3 with rfl | rfl | rfl
    · have hT' := hT.maskS 1 0 (!d)
      rw [ev_mask0] at hT'
      have H : At [] w w9 [(bm, bcs [!d, e, f]), (ba, bcs [a, b, c]), (bp, pcs 3 (maskS 3 (evS a b c d e f) 1 0 (!d)).2)] := H
      rw [ev_mask0] at H
      exact tail _ _ _ _ _ _ hT' w9 H
    · have hT' := hT.maskS 1 1 (!e)
      rw [ev_mask1] at hT'
      have H : At [] w w9 [(bm, bcs [d, !e, f]), (ba, bcs [a, b, c]), (bp, pcs 3 (maskS 3 (evS a b c d e f) 1 1 (!e)).2)] := H
      rw [ev_mask1] at H
      exact tail _ _ _ _ _ _ hT' w9 H
    · have hT' := hT.maskS 1 2 (!f)
      rw [ev_mask2] at hT'
      have H : At [] w w9 [(bm, bcs [d, e, !f]), (ba, bcs [a, b, c]), (bp, pcs 3 (maskS 3 (evS a b c d e f) 1 2 (!f)).2)] := H
      rw [ev_mask2] at H
      exact tail _ _ _ _ _ _ hT' w9 H
  · refine ⟨fun n1 s w' => n1 ≤ 3 ∧ s.2.1 = (n1 : Int) - 1 ∧ s.1 = wanF a b c d e f n1 ∧ At [] w w' [(bm, bcs [d, e, f]), (ba, bcs [a, b, c]), (bp, pcs 3 (evS a b c d e f))], ⟨3, fun w8 h8 => ⟨by decide, rfl, rfl, H.ext h8⟩⟩, ?_⟩
    clear H
    rintro n1 ⟨wn, j', u⟩ w8 ⟨hn1, hj, hwn, H⟩
    simp only at hj hwn
    subst hj; subst hwn
    dsimp only
    refine brP_intro (fun c5 => ?_) (fun c5 => ?_)
    · obtain ⟨t, rfl⟩ : ∃ t, n1 = t + 1 := ⟨n1 - 1, by simp at c5; omega⟩
      have ej : ((t + 1 : Nat) : Int) - 1 = (t : Int) := by omega
      rw [ej]
      have ht3 : t < 3 := by omega
      have es2 : subI .i64 (t : Int) 1 = (t : Int) - 1 := subI_i64 (by omega) (by omega)
      rw [es2]
      refine ⟨⟨rfl, by omega, by omega⟩, LdP.atA 1 H rfl (tv_el (bs := [a, b, c]) (by exact ht3)) ⟨fun _ => ⟨rfl, by omega, by omega⟩, LdP.atA 0 H rfl (tv_el (bs := [d, e, f]) (by exact ht3)) ?_⟩⟩
      have hw : ∀ t, t < 3 → wanF a b c d e f t = if (tv [a, b, c] (t : Nat) && !tv [d, e, f] (t : Nat)) = true then ((t : Nat) : Int) else wanF a b c d e f (t + 1) := fun t ht => by
        rcases (by omega : t = 0 ∨ t = 1 ∨ t = 2) with rfl | rfl | rfl <;> rfl
      refine brP_intro (fun c6 w9 h9 => ⟨t, by omega, by omega, rfl, ?_, H.ext h9⟩) (fun c6 w9 h9 => ⟨t, by omega, by omega, rfl, ?_, H.ext h9⟩)
      · rw [hw t ht3, if_pos c6]
      · rw [hw t ht3, if_neg (by rw [c6]; decide)]
    · have hn0 : n1 = 0 := by simp at c5; omega
      subst hn0
      refine ptake_at H 2 rfl hT.tookS 1 fun w9 H => ?_
      have hT' := hT.takeS 1
      rw [ev_take] at hT' H ⊢
      refine brP_neg ?_ ?_
      · rcases wan_rng a b c d e f with h | h | h | h <;> rw [h] <;> rfl
      · have tl := tail _ _ _ _ _ _ hT' w9
        rcases wan_rng a b c d e f with h | h | h | h
        · rw [h] at H tl ⊢
          refine brP_neg rfl (tl ?_)
          have e1 : ∀ z : Bool, (z && !((-1 : Int) == 0)) = z := by decide
          have e2 : ∀ z : Bool, (z && !((-1 : Int) == 1)) = z := by decide
          have e3 : ∀ z : Bool, (z && !((-1 : Int) == 2)) = z := by decide
          have H : At [] w w9 [(bm, bcs [d, e, f]), (ba, bcs [a, b, c]), (bp, pcs 3 (evS (a && !((-1 : Int) == 0)) (b && !((-1 : Int) == 1)) (c && !((-1 : Int) == 2)) d e f))] := H
          rw [e1, e2, e3] at H ⊢
          exact H
        · rw [h] at H tl ⊢
          refine brP_pos rfl ⟨⟨rfl, (by decide : (0 : Int) ≤ 0), (by decide : (0 : Int) < 3)⟩, tv_stB 1 H (v := 0) false rfl (by show (0 : Int).toNat < 3; decide) fun w10 H => tail (a && !((0 : Int) == 0)) (b && !((0 : Int) == 1)) (c && !((0 : Int) == 2)) d e f ?_ w10 ?_⟩
          · rw [h] at hT'; exact hT'
          · have e1 : ∀ z : Bool, (z && !((0 : Int) == 0)) = false := by decide
            have e2 : ∀ z : Bool, (z && !((0 : Int) == 1)) = z := by decide
            have e3 : ∀ z : Bool, (z && !((0 : Int) == 2)) = z := by decide
            have H : At [] w w10 [(bm, bcs [d, e, f]), (ba, bcs [false, b, c]), (bp, pcs 3 (evS (a && !((0 : Int) == 0)) (b && !((0 : Int) == 1)) (c && !((0 : Int) == 2)) d e f))] := H
            rw [e1, e2, e3] at H ⊢
            exact H
        · rw [h] at H tl ⊢
          refine brP_pos rfl ⟨⟨rfl, (by decide : (0 : Int) ≤ 1), (by decide : (1 : Int) < 3)⟩, tv_stB 1 H (v := 1) false rfl (by show (1 : Int).toNat < 3; decide) fun w10 H => tail (a && !((1 : Int) == 0)) (b && !((1 : Int) == 1)) (c && !((1 : Int) == 2)) d e f ?_ w10 ?_⟩
          · rw [h] at hT'; exact hT'
          · have e1 : ∀ z : Bool, (z && !((1 : Int) == 0)) = z := by decide
            have e2 : ∀ z : Bool, (z && !((1 : Int) == 1)) = false := by decide
            have e3 : ∀ z : Bool, (z && !((1 : Int) == 2)) = z := by decide
            have H : At [] w w10 [(bm, bcs [d, e, f]), (ba, bcs [a, false, c]), (bp, pcs 3 (evS (a && !((1 : Int) == 0)) (b && !((1 : Int) == 1)) (c && !((1 : Int) == 2)) d e f))] := H
            rw [e1, e2, e3] at H ⊢
            exact H
        · rw [h] at H tl ⊢
          refine brP_pos rfl ⟨⟨rfl, (by decide : (0 : Int) ≤ 2), (by decide : (2 : Int) < 3)⟩, tv_stB 1 H (v := 2) false rfl (by show (2 : Int).toNat < 3; decide) fun w10 H => tail (a && !((2 : Int) == 0)) (b && !((2 : Int) == 1)) (c && !((2 : Int) == 2)) d e f ?_ w10 ?_⟩
          · rw [h] at hT'; exact hT'
          · have e1 : ∀ z : Bool, (z && !((2 : Int) == 0)) = z := by decide
            have e2 : ∀ z : Bool, (z && !((2 : Int) == 1)) = z := by decide
            have e3 : ∀ z : Bool, (z && !((2 : Int) == 2)) = false := by decide
            have H : At [] w w10 [(bm, bcs [d, e, f]), (ba, bcs [a, b, false]), (bp, pcs 3 (evS (a && !((2 : Int) == 0)) (b && !((2 : Int) == 1)) (c && !((2 : Int) == 2)) d e f))] := H
            rw [e1, e2, e3] at H ⊢
            exact H
end Go.Proofs.Ytcnaaobeooiojaa
