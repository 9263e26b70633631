import Derived.Test.YtcnaaobeooiojaaT9
namespace Go.Proofs.Ytcnaaobeooiojaa
set_option linter.unusedSimpArgs false
set_option linter.unusedVariables false
open Go.RX
def k0 : List PT := List.replicate 512 zP
theorem okT_zero {room : Int} (h1 : 1 ≤ room) (h2 : room ≤ 32) : okT room k0 where
  len := List.length_replicate
  lo := h1
  hi := h2
  inv g i h := by
    refine .inl ?_
    unfold gp k0
    rw [List.getD_eq_getElem?_getD, List.getElem?_replicate]
    split <;> rfl
theorem pnewp_vc2 (n : Int) (w : World) (Post : Option Addr × Int × Unit → World → Prop) : (rxFn R1 (fun _ => []) 9 [.int .i64 n] w Post) = (
  brP (decide (n < 1) || decide (n > 32)) (EnP w fun (w1 : World) => Post (none, 1, Unit.unit) w1)
   (AlP w ⟨pcs n k0⟩ 63 fun (b : Nat) (w2 : World) => EnP w2 fun (w1 : World) => Post (some { block := b, off := 0 }, 0, Unit.unit) w1)) := by kernel_rfl
section
variable {D G : List Nat} {w0 w : World} {L : List (Nat × List Value)}
theorem pnewp_at (H : AtD D G w0 w L) (n : Int) {K : Option Addr × Int × Unit → World → Prop} (hb : n < 1 ∨ n > 32 → ∀ w1, AtD D G w0 w1 L → K (none, 1, ()) w1)
    (hg : 1 ≤ n → n ≤ 32 → ∀ bp w1, AtD D G w0 w1 ((bp, pcs n k0) :: L) → K (some ⟨bp, 0, none⟩, 0, ()) w1) :
    CaP Try.prog 9 (.tup [.one .ptr, .one (.int .i64)]) [.int .i64 n] w K := by
  refine CaP.go H fun w1 H => rxFn_ok (C := R1) (ann := fun _ => []) (Eq.mpr (pnewp_vc2 n w1 K) ?_)
  refine brP_intro (fun c => ?_) (fun c => ?_)
  · exact EnP.go H fun w2 H => hb (by simp at c; omega) w2 H
  · refine AlP.go H fun b w2 H => EnP.go H fun w3 H => hg (by simp at c; omega) (by simp at c; omega) b w3 H
end
theorem Ed.chk {room : Int} {ps : List PT} (f : Int → Int → Bool) (h : ((List.range 16).all fun u => (List.range room.toNat).all fun i => decide (gp ps ((u : Nat) + 1 : Int) (i : Nat) = zP) || f ((u : Nat) + 1 : Int) (gp ps ((u : Nat) + 1 : Int) (i : Nat)).2.1) = true) {u v : Int} (e : Ed room ps u v) : f u v = true := by
  obtain ⟨i, hi, hz, rfl⟩ := e
  have hr := inR_iff.1 hi
  have h1 := List.all_eq_true.1 h (u - 1).toNat (List.mem_range.2 (by omega))
  have h2 := List.all_eq_true.1 h1 i.toNat (List.mem_range.2 (by omega))
  rw [show (((u - 1).toNat : Nat) : Int) + 1 = u by omega, show ((i.toNat : Nat) : Int) = i by omega, Bool.or_eq_true] at h2
  rcases h2 with h2 | h2
  · exact absurd (of_decide_eq_true h2) hz
  · exact h2
def k1 : List PT := (openS 2 k0 1 2).2
def k2 : List PT := (openS 2 k1 1 3).2
def k3 : List PT := (openS 2 k2 1 2).2
def k4 : List PT := (bindS 2 k3 2 1 1).2
def k5 : List PT := (bindS 2 k4 2 1 0).2
def k6 : List PT := (bindS 2 k5 2 1 0).2
def k7 : List PT := (sendS 2 k6 2 0).2
def k8 : List PT := (sendS 2 k7 1 1).2
def k9 : List PT := (maskS 2 k8 1 0 true).2
def k10 : List PT := (takeS 2 k9 1).2
def k11 : List PT := (maskS 2 k10 1 0 false).2
def k12 : List PT := (takeS 2 k11 1).2
def k13 : List PT := (closeS 2 k12 2 0).2
def k14 : List PT := (dropS 2 k13 2).2
theorem kn1 : linkS 2 k13 2 3 = true := linkS_iff.2 ⟨rfl, rfl, .fwd (u := 1) (.bwd .refl ⟨0, by decide +kernel, by decide +kernel, by decide +kernel⟩) ⟨1, by decide +kernel, by decide +kernel, by decide +kernel⟩⟩
theorem kn2 : linkS 2 k13 2 4 = false := by
  rw [Bool.eq_false_iff]
  intro h
  have := (linkS_iff.1 h).2.2.inv (fun v => decide (v ≤ 3) = true) (by decide) fun u v e => by
    have := e.chk (fun u v => decide (u ≤ 3) == decide (v ≤ 3)) (by decide +kernel)
    rw [beq_iff_eq] at this; rw [this]
  exact absurd this (by decide)
theorem kn4 : (dropS 2 k13 2).1 = 1 := by decide +kernel
theorem kn3 : linkS 2 k14 1 2 = false := by
  rw [Bool.eq_false_iff]
  intro h
  have := (linkS_iff.1 h).2.2.inv (fun v => (decide (v = 1) || decide (v = 3)) = true) (by decide) fun u v e => by
    have := e.chk (fun u v => (decide (u = 1) || decide (u = 3)) == (decide (v = 1) || decide (v = 3))) (by decide +kernel)
    rw [beq_iff_eq] at this; rw [this]
  exact absurd this (by decide)
section
variable {D G : List Nat} {w0 w : World} {L : List (Nat × List Value)} {bp : Nat} {room : Int} {ps : List PT}
theorem plinked_q (H : AtD D G w0 w L) (j : Nat) (hL : L[j]? = some (bp, pcs room ps)) (hT : okT room ps) (a b : Int) {x : Bool} (hx : linkS room ps a b = x) : QCalls Try.prog 28 [.pointer (some ⟨bp, 0, none⟩), .int .i64 a, .int .i64 b] w (.bool x) := by
  subst hx
  exact QCalls.of (s := .el (.one .bool)) fun w' h' => plinked_ok ((H.get hL).ext h') hT a b
end
theorem tknown_ok (w : World) : CallsR Try.prog 33 (.el (.one .bool)) [] w (fun b w' => b = true ∧ Ext w w') := by
  refine rxFn_ok (C := R2) (ann := fun _ => []) (Eq.mpr (tknown_vc w _) ?_)
  have H := At.start [] w
  refine pnewp_at H 2 (fun h => absurd h (by decide)) fun _ _ bp w1 H => ?_
  refine pnewp_at H 33 (fun _ w2 H => ?_) (fun _ h => absurd h (by decide))
  refine brP_neg (by rfl) ?_
  have t0 : okT 2 k0 := okT_zero (by decide) (by decide)
  have t1 : okT 2 k1 := t0.openS _ _
  have t2 : okT 2 k2 := t1.openS _ _
  have t3 : okT 2 k3 := t2.openS _ _
  have t4 : okT 2 k4 := t3.bindS _ _ _
  have t5 : okT 2 k5 := t4.bindS _ _ _
  have t6 : okT 2 k6 := t5.bindS _ _ _
  have t7 : okT 2 k7 := t6.sendS _ _
  have t8 : okT 2 k8 := t7.sendS _ _
  have t9 : okT 2 k9 := t8.maskS _ _ _
  have t10 : okT 2 k10 := t9.takeS _
  have t11 : okT 2 k11 := t10.maskS _ _ _
  have t12 : okT 2 k12 := t11.takeS _
  have t13 : okT 2 k13 := t12.closeS _ _
  refine popen_at H 0 rfl t0.tookS _ _ fun w3 H => ?_
  refine popen_at (ps := k1) H 0 rfl t1.tookS _ _ fun w3 H => ?_
  refine popen_at (ps := k2) H 0 rfl t2.tookS _ _ fun w3 H => ?_
  refine pbind_at (ps := k3) H 0 rfl t3.tookS _ _ _ fun w3 H => ?_
  refine pbind_at (ps := k4) H 0 rfl t4.tookS _ _ _ fun w3 H => ?_
  refine pbind_at (ps := k5) H 0 rfl t5.tookS _ _ _ fun w3 H => ?_
  refine psend_at (ps := k6) H 0 rfl t6 _ _ fun w3 H => ?_
  refine psend_at (ps := k7) H 0 rfl t7 _ _ fun w3 H => ?_
  refine pmask_at (ps := k8) H 0 rfl t8.tookS _ _ _ fun w3 H => ?_
  refine ptake_at (ps := k9) H 0 rfl t9.tookS _ fun w3 H => ?_
  refine pmask_at (ps := k10) H 0 rfl t10.tookS _ _ _ fun w3 H => ?_
  refine ptake_at (ps := k11) H 0 rfl t11.tookS _ fun w3 H => ?_
  refine pclose_at (ps := k12) H 0 rfl t12 _ _ fun w3 H => ?_
  have H : At [] w w3 [(bp, pcs 2 k13)] := H
  refine ⟨_, pof_q H 0 rfl t13.tookS 1 0, ?_⟩
  refine AlP.go H fun b w4 H => StP.all 0 H rfl rfl rfl fun w5 H => LdP.at 0 H rfl rfl ?_
  refine ⟨true, fun _ => plinked_q H 1 rfl t13 2 3 kn1, false, fun _ => plinked_q H 1 rfl t13 2 4 kn2, brP_pos (by decide +kernel) ?_⟩
  refine pdrop_at H 1 rfl t13 2 fun w6 H => ?_
  have H : At [] w w6 [(b, _), (bp, pcs 2 k14)] := H
  have t14 : okT 2 k14 := dropS_ok t13 2
  have e4 : (dropS 2 k13 2).1 = 1 := kn4
  rw [e4]
  refine ⟨false, fun _ => plinked_q H 1 rfl t14 1 2 kn3, ?_⟩
  refine brP_pos rfl ?_
  refine ppend_at H 1 rfl t14.tookS 1 fun r rows w7 H hr => EnP.go H fun w8 H => ⟨?_, H.all⟩
  have e : (pendL 2 k14 1).length = 0 := by decide +kernel
  rw [hr.1, e]; rfl
end Go.Proofs.Ytcnaaobeooiojaa
