import Derived.Test.YtmdcalknhbhlcaaLst
namespace Go.Proofs.Ytmdcalknhbhlcaa
open Go.RX
set_option linter.unusedVariables false
theorem ones_vc (v : Int) (w : World) (Post : Option Addr × Unit → World → Prop) : (rxFn C3 (fun _ => []) 31 [.int .u64 v] w Post) = (
 ∀ (w1 : World),
  Ext w w1 →
   ∀ (w1_1 : World),
    Ext (w1.alloc (Obj.cells { toList := [Value.int IntKind.u64 v] } 22)) w1_1 →
     Post (some { block := w1.heap.size, off := 0 }, Unit.unit) w1_1) := by kernel_rfl
def ones1_vc_ann : Nat → Slots := (fun | 1 => [(3, Go.RX.El.one (Go.RX.Sc.int Go.IntKind.i64))] | _ => [])
theorem ones1_vc (y : Nat) (p : Option Addr) (w : World) (Post : Unit → World → Prop) : (rxFn C3 ones1_vc_ann 32 [.func (.yield y) #[] #[], .pointer p] w Post) = (
 ∃ (I : Nat → Int × Unit → World → Prop),
  (∃ (n : Nat), ∀ (w1 : World), Ext w w1 → I n (0, Unit.unit) w1) ∧
   ∀ (n : Nat) (s : Int × Unit) (w1 : World),
    I n s w1 →
     ∃ (x : Int),
      rdAt w1 p (El.one (Sc.int IntKind.u64)) x ∧
       brP (decide (x > 0))
        (∃ (x : Int),
         rdAt w1 p (El.one (Sc.int IntKind.u64)) x ∧
          brP (andI IntKind.u64 x 1 == 1)
           (∀ (w1_1 : World),
            Ext w1 w1_1 →
             YieldC Try.prog y [Value.int IntKind.i64 s.fst] w1_1 fun (b : Bool) (w2 : World) =>
              brP (!b) (∀ (w1 : World), Ext w2 w1 → Post Unit.unit w1)
               (∃ (x : Int),
                rdAt w2 p (El.one (Sc.int IntKind.u64)) x ∧
                 ∀ (w1 : World),
                  Ext w2 w1 →
                   (true = true ∧ stAt w1 p 1) ∧
                    ∀ (w3 : World),
                     Ext (putP w1 p [Value.int IntKind.u64 (shrI IntKind.u64 x 1)]) w3 →
                      ∃ (n' : Nat), n' < n ∧ I n' (addI IntKind.i64 s.fst 1, Unit.unit) w3))
           (∃ (x : Int),
            rdAt w1 p (El.one (Sc.int IntKind.u64)) x ∧
             ∀ (w1_1 : World),
              Ext w1 w1_1 →
               (true = true ∧ stAt w1_1 p 1) ∧
                ∀ (w3 : World),
                 Ext (putP w1_1 p [Value.int IntKind.u64 (shrI IntKind.u64 x 1)]) w3 →
                  ∃ (n' : Nat), n' < n ∧ I n' (addI IntKind.i64 s.fst 1, Unit.unit) w3))
        (∀ (w1_1 : World), Ext w1 w1_1 → Post Unit.unit w1_1)) := by kernel_rfl
def count_vc_ann : Nat → Slots := (fun | 3 => [(6, .one (.int .i64))] | _ => [])
theorem count_vc (v : Int) (w : World) (Post : Int → World → Prop) : (rxFnR C3 count_vc_ann 19 [.int .u64 v] w Post) = (
 ∀ (w1 : World),
  Ext w w1 →
   ∀ (w1_1 : World),
    Ext (w1.alloc (Obj.cells { toList := [Value.int IntKind.i64 0] } 3)) w1_1 →
     (true = true ∧ stAt w1_1 (some { block := w1.heap.size, off := 0 }) 1) ∧
      ∀ (w1_2 : World),
       Ext (putP w1_1 (some { block := w1.heap.size, off := 0 }) [Value.int IntKind.i64 0]) w1_2 →
        CallsR Try.prog 31 (Sh.el (El.one (Sc.clo 32 1))) [Value.int IntKind.u64 v] w1_2
         fun (x : Option Addr × Unit) (w2 : World) =>
         ∀ (w1_3 : World),
          Ext w2 w1_3 →
           ∀ (rec : Loop),
            rec.params = { toList := [6] } →
             rec.defers = w1_3.heap.size →
              rec.state = LoopState.ready →
               rec.pending = none →
                (∀ (x : Int × Unit) (w3 : World) (R : Bool → World → Prop),
                  ((∃ (pd : Option Code), LoopAt w3 (w1_3.heap.size + 1) rec LoopState.ready pd) ∧
                    [Value.int IntKind.i64 x.fst].length = 1 ∧
                     ∀ (w5 : World),
                      Ext w3 w5 →
                       ∃ (pd : Option Code),
                        LoopAt w5 (w1_3.heap.size + 1) rec LoopState.ready pd ∧
                         ∃ (x : Int),
                          rdAt (putL w5 (w1_3.heap.size + 1) rec LoopState.busy pd)
                            (some { block := w1.heap.size, off := 0 }) (El.one (Sc.int IntKind.i64)) x ∧
                           ∀ (w1_4 : World),
                            Ext (putL w5 (w1_3.heap.size + 1) rec LoopState.busy pd) w1_4 →
                             (true = true ∧ stAt w1_4 (some { block := w1.heap.size, off := 0 }) 1) ∧
                              ∀ (w6 : World),
                               Ext
                                 (putP w1_4 (some { block := w1.heap.size, off := 0 })
                                  [Value.int IntKind.i64 (addI IntKind.i64 x 1)])
                                 w6 →
                                ∃ (st : LoopState),
                                 ∃ (pd : Option Code),
                                  LoopAt w6 (w1_3.heap.size + 1) rec st pd ∧
                                   R true (putL w6 (w1_3.heap.size + 1) rec LoopState.ready none)) →
                   YieldC Try.prog (w1_3.heap.size + 1) [Value.int IntKind.i64 x.fst] w3 R) →
                 Calls Try.prog 32
                  {
                   toList :=
                    [Value.func (Fn.yield (w1_3.heap.size + 1)) { toList := [] } { toList := [] }, Value.pointer x.fst] }
                  ((w1_3.alloc (Obj.deferred (some []))).alloc (Obj.loop rec)) fun (e : Ending) (w4 : World) =>
                  ∃ (v : Value),
                   e = Ending.returned v ∧
                    ∃ (st : LoopState),
                     ∃ (pd : Option Code),
                      LoopAt w4 (w1_3.heap.size + 1) rec st pd ∧
                       st ≠ LoopState.busy ∧
                        match pd with
                        | none =>
                         ∃ (x : Int),
                          rdAt (putL w4 (w1_3.heap.size + 1) rec LoopState.exhausted none)
                            (some { block := w1.heap.size, off := 0 }) (El.one (Sc.int IntKind.i64)) x ∧
                           ∀ (w1 : World),
                            Ext (putL w4 (w1_3.heap.size + 1) rec LoopState.exhausted none) w1 →
                             openD [w1_3.heap.size] w1 ∧ Post x (closeD [w1_3.heap.size] w1)
                        | some (Code.exit id) =>
                         Decidable.rec (fun (h : id = 0 → False) => False)
                          (fun (h : id = 0) =>
                           ∃ (x : Int),
                            rdAt (putL w4 (w1_3.heap.size + 1) rec LoopState.exhausted (some (Code.exit id)))
                              (some { block := w1.heap.size, off := 0 }) (El.one (Sc.int IntKind.i64)) x ∧
                             ∀ (w1 : World),
                              Ext (putL w4 (w1_3.heap.size + 1) rec LoopState.exhausted (some (Code.exit id))) w1 →
                               openD [w1_3.heap.size] w1 ∧ Post x (closeD [w1_3.heap.size] w1))
                          (instDecidableEqNat id 0)
                        | some Code.ret =>
                         ∀ (w1 : World),
                          Ext (putL w4 (w1_3.heap.size + 1) rec LoopState.exhausted (some Code.ret)) w1 →
                           openD [w1_3.heap.size] w1 ∧ Post 0 (closeD [w1_3.heap.size] w1)
                        | x => False) := by kernel_rfl
def onesf_vc_ann : Nat → Slots := (fun | 4 => [(7, .one (.int .i64))] | _ => [])
theorem onesf_vc (v : Int) (w : World) (Post : Option Addr × Nat × Nat → World → Prop) : (rxFnR C3 onesf_vc_ann 18 [.int .u64 v] w Post) = (
 ∀ (w1 : World),
  Ext w w1 →
   ∀ (w1_1 : World),
    Ext (w1.alloc (Obj.cells { toList := [Value.slice none 0 0] } 24)) w1_1 →
     CallsR Try.prog 31 (Sh.el (El.one (Sc.clo 32 1))) [Value.int IntKind.u64 v] w1_1
      fun (x : Option Addr × Unit) (w2 : World) =>
      ∀ (w1_2 : World),
       Ext w2 w1_2 →
        ∀ (rec : Loop),
         rec.params = { toList := [7] } →
          rec.defers = w1_2.heap.size →
           rec.state = LoopState.ready →
            rec.pending = none →
             (∀ (x : Int × Unit) (w3 : World) (R : Bool → World → Prop),
               ((∃ (pd : Option Code), LoopAt w3 (w1_2.heap.size + 1) rec LoopState.ready pd) ∧
                 [Value.int IntKind.i64 x.fst].length = 1 ∧
                  ∀ (w5 : World),
                   Ext w3 w5 →
                    ∃ (pd : Option Code),
                     LoopAt w5 (w1_2.heap.size + 1) rec LoopState.ready pd ∧
                      ∃ (x_1 : Option Addr × Nat × Nat),
                       rdAt (putL w5 (w1_2.heap.size + 1) rec LoopState.busy pd)
                         (some { block := w1.heap.size, off := 0 }) (El.one Sc.slice) x_1 ∧
                        ∀ (w1_3 : World),
                         Ext (putL w5 (w1_2.heap.size + 1) rec LoopState.busy pd) w1_3 →
                          ∀ (w1_4 : World),
                           Ext (w1_3.alloc (Obj.cells { toList := [Value.int IntKind.i64 x.fst] } 3)) w1_4 →
                            apR w1_4 3 1 8 { toList := [Value.int IntKind.i64 0] } (x_1.fst, x_1.snd.fst, x_1.snd.snd)
                             (some { block := w1_3.heap.size, off := 0 }, 1, 1)
                             fun (r : Option Addr × Nat × Nat) (w2 : World) =>
                             ∀ (w1_5 : World),
                              Ext w2 w1_5 →
                               (true = true ∧ stAt w1_5 (some { block := w1.heap.size, off := 0 }) 1) ∧
                                ∀ (w6 : World),
                                 Ext
                                   (putP w1_5 (some { block := w1.heap.size, off := 0 })
                                    [Value.slice r.fst r.snd.fst r.snd.snd])
                                   w6 →
                                  ∃ (st : LoopState),
                                   ∃ (pd : Option Code),
                                    LoopAt w6 (w1_2.heap.size + 1) rec st pd ∧
                                     R true (putL w6 (w1_2.heap.size + 1) rec LoopState.ready none)) →
                YieldC Try.prog (w1_2.heap.size + 1) [Value.int IntKind.i64 x.fst] w3 R) →
              Calls Try.prog 32
               {
                toList :=
                 [Value.func (Fn.yield (w1_2.heap.size + 1)) { toList := [] } { toList := [] }, Value.pointer x.fst] }
               ((w1_2.alloc (Obj.deferred (some []))).alloc (Obj.loop rec)) fun (e : Ending) (w4 : World) =>
               ∃ (v : Value),
                e = Ending.returned v ∧
                 ∃ (st : LoopState),
                  ∃ (pd : Option Code),
                   LoopAt w4 (w1_2.heap.size + 1) rec st pd ∧
                    st ≠ LoopState.busy ∧
                     match pd with
                     | none =>
                      ∃ (x : Option Addr × Nat × Nat),
                       rdAt (putL w4 (w1_2.heap.size + 1) rec LoopState.exhausted none)
                         (some { block := w1.heap.size, off := 0 }) (El.one Sc.slice) x ∧
                        ∀ (w1 : World),
                         Ext (putL w4 (w1_2.heap.size + 1) rec LoopState.exhausted none) w1 →
                          openD [w1_2.heap.size] w1 ∧ Post (x.fst, x.snd.fst, x.snd.snd) (closeD [w1_2.heap.size] w1)
                     | some (Code.exit id) =>
                      Decidable.rec (fun (h : id = 0 → False) => False)
                       (fun (h : id = 0) =>
                        ∃ (x : Option Addr × Nat × Nat),
                         rdAt (putL w4 (w1_2.heap.size + 1) rec LoopState.exhausted (some (Code.exit id)))
                           (some { block := w1.heap.size, off := 0 }) (El.one Sc.slice) x ∧
                          ∀ (w1 : World),
                           Ext (putL w4 (w1_2.heap.size + 1) rec LoopState.exhausted (some (Code.exit id))) w1 →
                            openD [w1_2.heap.size] w1 ∧ Post (x.fst, x.snd.fst, x.snd.snd) (closeD [w1_2.heap.size] w1))
                       (instDecidableEqNat id 0)
                     | some Code.ret =>
                      ∀ (w1 : World),
                       Ext (putL w4 (w1_2.heap.size + 1) rec LoopState.exhausted (some Code.ret)) w1 →
                        openD [w1_2.heap.size] w1 ∧ Post (none, 0, 0) (closeD [w1_2.heap.size] w1)
                     | x => False) := by kernel_rfl
theorem ones_ok (v : BitVec 64) (w : World) : CallsR Try.prog 31 (.el (.one (.clo 32 1))) [.int .u64 (U v)] w (fun x w' => ∃ b, x.1 = some ⟨b, 0, none⟩ ∧ w.heap.size ≤ b ∧ Blk w' b [.int .u64 (U v)] ∧ Ext w w') := by
  refine rxFn_ok (C := C3) (ann := fun _ => []) (Eq.mpr (ones_vc (U v) w _) ?_)
  intro w1 h1 w2 h2
  exact ⟨_, rfl, h1.size, (Blk.new w1 _ _).ext h2, (h1.allocd _).trans h2⟩
theorem odd' (w : BitVec 64) : (andI .u64 (U w) 1 == 1) = w.getLsbD 0 := by
  rw [show (1 : Int) = U 1#64 from rfl, andI_U]
  have h0 : (w &&& 1#64) = if w.getLsbD 0 = true then 1#64 else 0#64 := by
    apply BitVec.eq_of_getLsbD_eq
    intro j hj
    rw [BitVec.getLsbD_and, BitVec.getLsbD_one]
    by_cases h : w.getLsbD 0 = true
    · rw [if_pos h, BitVec.getLsbD_one]
      by_cases e : j = 0
      · subst e; simp [h]
      · simp [e]
    · rw [if_neg h, BitVec.getLsbD_zero]
      by_cases e : j = 0
      · subst e; simp at h; simp [h]
      · simp [e]
  rw [h0]
  cases h : w.getLsbD 0
  · simp [U]
  · simp
theorem pos_U (w : BitVec 64) : decide (U w > 0) = decide (w ≠ 0#64) := by
  have : U w > 0 ↔ w ≠ 0#64 := by
    constructor
    · intro h e; subst e; exact absurd h (by decide)
    · intro h
      have h1 : w.toNat ≠ 0 := fun e => h (BitVec.eq_of_toNat_eq (by simpa using e))
      unfold U; omega
  by_cases h : w ≠ 0#64 <;> simp [h, this]
/-- What is handed on, one behind the other. -/
theorem ones1_ok {y b : Nat} {v : BitVec 64} {w : World} (J : List Nat → World → Prop) (hb : Blk w b [.int .u64 (U v)]) (h0 : J (onesL v) w)
    (hJ : ∀ l w w', J l w → Ext w w' → J l w') (hP : ∀ l w x, J l w → J l (putP w (some ⟨b, 0, none⟩) [x]))
    (hY : ∀ i l w u (R : Bool → World → Prop), J (i :: l) w → l.length < 64 → Blk w b [.int .u64 (U u)] → (∀ w2, J l w2 → Blk w2 b [.int .u64 (U u)] → R true w2) → YieldC Try.prog y [.int .i64 (i : Nat)] w R) :
    Calls Try.prog 32 ⟨[.func (.yield y) #[] #[], .pointer (some ⟨b, 0, none⟩)]⟩ w (fun e w' => ∃ v, e = .returned v ∧ J [] w') := by
  have key : CallsR Try.prog 32 (shF C3 32) [.func (.yield y) #[] #[], .pointer (some ⟨b, 0, none⟩)] w (fun _ w' => J [] w') := by
    refine rxFn_ok (C := C3) (ann := ones1_vc_ann) (Eq.mpr (ones1_vc y (some ⟨b, 0, none⟩) w _) ?_)
    refine ⟨fun n s w' => ∃ i : Nat, s.1 = i ∧ n + i = 64 ∧ J (remL v i) w' ∧ Blk w' b [.int .u64 (U (v >>> i))], ⟨64, fun w1 h1 => ⟨0, rfl, rfl, hJ _ _ _ h0 h1, by rw [BitVec.ushiftRight_zero]; exact hb.ext h1⟩⟩, ?_⟩
    rintro n ⟨i', u⟩ w1 ⟨i, h1, hn, hj, hbl⟩
    simp only at h1
    subst h1
    dsimp only
    refine ⟨_, hbl.rd1 rfl, ?_⟩
    rw [pos_U]
    refine brP_intro (fun h => ?_) (fun h => ?_)
    · simp only [decide_eq_true_eq] at h
      have hi := remL_lt h
      rw [remL_step hi] at hj
      refine ⟨_, hbl.rd1 rfl, ?_⟩
      rw [odd', BitVec.getLsbD_ushiftRight, Nat.add_zero]
      have next : ∀ w2 w3 w4, J (remL v (i + 1)) w2 → Blk w2 b [.int .u64 (U (v >>> i))] → Ext w2 w3 → Ext (putP w3 (some ⟨b, 0, none⟩) [Value.int .u64 (shrI .u64 (U (v >>> i)) 1)]) w4 →
          ∃ n', n' < n ∧ ∃ j : Nat, addI .i64 (i : Int) 1 = j ∧ n' + j = 64 ∧ J (remL v j) w4 ∧ Blk w4 b [.int .u64 (U (v >>> j))] := by
        intro w2 w3 w4 hj2 hb2 hw3 hw4
        refine ⟨n - 1, by omega, i + 1, ?_, by omega, hJ _ _ _ (hP _ _ _ (hJ _ _ _ hj2 hw3)) hw4, ?_⟩
        · rw [addI_i64 (by omega) (by omega)]; rfl
        · rw [shrI_U, ← BitVec.shiftRight_add] at hw4
          exact ((hb2.ext hw3).put1 _).ext hw4
      refine brP_intro (fun hbit wA hA => ?_) (fun hbit => ⟨_, hbl.rd1 rfl, fun wA hA => ⟨⟨rfl, (hbl.ext hA).st (by simp)⟩, fun w3 hw3 => next w1 wA w3 ?_ hbl hA hw3⟩⟩)
      · rw [if_pos hbit] at hj
        have hl : (remL v (i + 1)).length < 64 := by
          have := List.length_filter_le (fun j => v.getLsbD j) (List.range' (i + 1) (64 - (i + 1)))
          simp only [List.length_range'] at this
          unfold remL; omega
        refine hY i _ wA (v >>> i) _ (hJ _ _ _ hj hA) hl (hbl.ext hA) fun w2 hj2 hb2 => ?_
        exact ⟨_, hb2.rd1 rfl, fun wB hB => ⟨⟨rfl, (hb2.ext hB).st (by simp)⟩, fun w3 hw3 => next w2 wB w3 hj2 hb2 hB hw3⟩⟩
      · rw [hbit] at hj
        simpa using hj
    · simp only [decide_eq_false_iff_not, Decidable.not_not] at h
      intro wA hA
      rw [remL_end h] at hj
      exact hJ _ _ _ hj hA
  exact Calls.mono key fun e w' ⟨x, he, hj⟩ => ⟨_, he, hj⟩
theorem count_ok (v : BitVec 64) (w : World) : CallsR Try.prog 19 (.el eI) [.int .u64 (U v)] w (fun x w' => x = (onesL v).length ∧ Ext w w') := by
  refine rxFnR_ok (C := C3) (ann := count_vc_ann) (Eq.mpr (count_vc (U v) w _) ?_)
  intro w1 h1 w2 h2
  have hlen := onesL_len v
  have bk : Blk w2 w1.heap.size [.int .i64 0] := (Blk.new w1 _ _).ext h2
  have hw2 : Ext w w2 := (h1.allocd _).trans h2
  refine ⟨⟨rfl, bk.st (by simp)⟩, fun w3 h3 => ?_⟩
  have bk3 : Blk w3 w1.heap.size [.int .i64 0] := (bk.put1 _).ext h3
  have hw3 : Ext w w3 := (hw2.putP (a := ⟨w1.heap.size, 0, none⟩) h1.size _).trans h3
  refine (ones_ok v w3).mono ?_
  rintro ⟨x, u⟩ w4 ⟨b, hx, hsz, hb4, h4⟩ w5 h5 rec _ hd hst hpd hyield
  simp only at hx
  subst hx
  dsimp only
  have lt1 := bk3.lt
  have hrec : rec = { rec with state := .ready, pending := none } := by rw [← hst, ← hpd]
  have hb5 := hb4.ext h5
  have lt5 := hb5.lt
  let W := (w5.alloc (.deferred (some []))).alloc (.loop rec)
  have e5 : Ext w5 W := (Ext.alloc w5 _).trans (Ext.alloc _ _)
  have sz5 : (w5.alloc (.deferred (some []))).heap.size = w5.heap.size + 1 := alloc_size _ _
  let J : List Nat → World → Prop := fun l w' => Ext w w' ∧ Blk w' w1.heap.size [.int .i64 (((onesL v).length - l.length : Nat) : Int)] ∧ l.length ≤ (onesL v).length ∧ LoopAt w' (w5.heap.size + 1) rec .ready none ∧ w'.heap[w5.heap.size]? = some (.deferred (some []))
  have hsw := h1.size
  refine Calls.mono (ones1_ok (w := W) (v := v) (b := b) (y := w5.heap.size + 1) J (hb5.ext e5) ?_ ?_ ?_ ?_) ?_
  · refine ⟨((hw3.trans h4).trans h5).trans e5, ?_, Nat.le_refl _, ?_, ?_⟩
    · rw [Nat.sub_self]; exact ((bk3.ext h4).ext h5).ext e5
    · have := alloc_self (w5.alloc (.deferred (some []))) (.loop rec)
      rw [sz5] at this
      unfold LoopAt; rw [this, ← hrec]
    · exact (Ext.alloc _ _).obj (alloc_self w5 _)
  · rintro l a a' ⟨j1, j2, j3, j4, j5⟩ ha
    exact ⟨j1.trans ha, j2.ext ha, j3, j4.ext ha, ha.obj j5⟩
  · rintro l a x ⟨j1, j2, j3, j4, j5⟩
    have n1 : w1.heap.size ≠ b := by omega
    refine ⟨j1.putP (a := ⟨b, 0, none⟩) (by show _ ≤ b; omega) _, j2.putNe n1 _, j3, j4.putP (by show _ ≠ b; omega) _, ?_⟩
    rw [← j5]
    exact putAt_ne _ _ ⟨b, 0, none⟩ 0 _ (by show _ ≠ b; omega)
  · rintro i l a u R ⟨j1, j2, j3, j4, j5⟩ _ hbl hR
    simp only [List.length_cons] at j2 j3
    refine hyield ((i : Int), ()) a R ⟨⟨none, j4⟩, rfl, fun a5 ha5 => ⟨none, j4.ext ha5, _, ((j2.ext ha5).putL (by omega) rec .busy none).rd1 rfl, fun a6 ha6 => ?_⟩⟩
    have b6 := ((j2.ext ha5).putL (k := w5.heap.size + 1) (by omega) rec .busy none).ext ha6
    refine ⟨⟨rfl, b6.st (by simp)⟩, fun a7 ha7 => ⟨.busy, none, ?_, hR _ ⟨?_, ?_, by omega, ?_, ?_⟩ ?_⟩⟩
    · exact ((((j4.ext ha5).put .busy none).ext ha6).putP (by show _ ≠ w1.heap.size; omega) _).ext ha7
    · refine Ext.putL (((((j1.trans ha5).putL (b := w5.heap.size + 1) (by omega) rec .busy none).trans ha6).putP (a := ⟨w1.heap.size, 0, none⟩) h1.size _).trans ha7) (by omega) rec .ready none
    · have := ((b6.put1 (.int .i64 (addI .i64 (((onesL v).length - (l.length + 1) : Nat) : Int) 1))).ext ha7).putL (k := w5.heap.size + 1) (by omega) rec .ready none
      rw [addI_i64 (by omega) (by omega)] at this
      rw [show (((onesL v).length - l.length : Nat) : Int) = (((onesL v).length - (l.length + 1) : Nat) : Int) + 1 by omega]
      exact this
    · exact LoopAt.put (((((j4.ext ha5).put .busy none).ext ha6).putP (a := ⟨w1.heap.size, 0, none⟩) (by show _ ≠ w1.heap.size; omega) _).ext ha7) .ready none
    · have k1 := ha5.obj j5
      have k2 : (putL a5 (w5.heap.size + 1) rec .busy none).heap[w5.heap.size]? = some (.deferred (some [])) := by rw [← k1]; exact putObj_ne (by omega)
      have k3 := ha6.obj k2
      have k4 : (putP a6 (some ⟨w1.heap.size, 0, none⟩) [Value.int .i64 (addI .i64 (((onesL v).length - (l.length + 1) : Nat) : Int) 1)]).heap[w5.heap.size]? = some (.deferred (some [])) := by
        rw [← k3]; exact putAt_ne _ _ ⟨w1.heap.size, 0, none⟩ 0 _ (by show _ ≠ w1.heap.size; omega)
      have k5 := ha7.obj k4
      show (putL a7 (w5.heap.size + 1) rec .ready none).heap[w5.heap.size]? = _
      rw [← k5]; exact putObj_ne (by omega)
    · exact (((((hbl.ext ha5).putL (k := w5.heap.size + 1) (by omega) rec .busy none).ext ha6).putNe (a := ⟨w1.heap.size, 0, none⟩) (by show _ ≠ w1.heap.size; omega) _).ext ha7).putL (by omega) rec .ready none
  · rintro e a ⟨x, he, j1, j2, j3, j4, j5⟩
    refine ⟨x, he, .ready, none, j4, by simp, _, (j2.putL (by omega) rec .exhausted none).rd1 rfl, fun a1 ha1 => ?_⟩
    have k1 : (putL a (w5.heap.size + 1) rec .exhausted none).heap[w5.heap.size]? = some (.deferred (some [])) := by rw [← j5]; exact putObj_ne (by omega)
    refine ⟨⟨ha1.obj k1, trivial⟩, ?_, ?_⟩
    · simp
    · show Ext w (a1.putObj w5.heap.size (.deferred none))
      exact Ext.putObj ((j1.putL (b := w5.heap.size + 1) (by omega) rec .exhausted none).trans ha1) (by omega) _
theorem onesf_ok (v : BitVec 64) (w : World) : CallsR Try.prog 18 (.el (.one .slice)) [.int .u64 (U v)] w (fun r w' => Own w w' eI r (embN (onesL v)) ∧ Ext w w') := by
  refine rxFnR_ok (C := C3) (ann := onesf_vc_ann) (Eq.mpr (onesf_vc (U v) w _) ?_)
  intro w1 h1 w3 h3
  have hlen := onesL_len v
  have bk3 : Blk w3 w1.heap.size [.slice none 0 0] := (Blk.new w1 _ _).ext h3
  have hw3 : Ext w w3 := (h1.allocd _).trans h3
  refine (ones_ok v w3).mono ?_
  rintro ⟨x, u⟩ w4 ⟨b, hx, hsz, hb4, h4⟩ w5 h5 rec _ hd hst hpd hyield
  simp only at hx
  subst hx
  dsimp only
  have lt1 := bk3.lt
  have hrec : rec = { rec with state := .ready, pending := none } := by rw [← hst, ← hpd]
  have hb5 := hb4.ext h5
  have lt5 := hb5.lt
  let W := (w5.alloc (.deferred (some []))).alloc (.loop rec)
  have e5 : Ext w5 W := (Ext.alloc w5 _).trans (Ext.alloc _ _)
  have sz5 : (w5.alloc (.deferred (some []))).heap.size = w5.heap.size + 1 := alloc_size _ _
  let n := w5.heap.size + 2
  have szW : W.heap.size = n := by show ((w5.alloc _).alloc _).heap.size = _; rw [alloc_size, sz5]
  let J : List Nat → World → Prop := fun l w' => Ext w w' ∧ n ≤ w'.heap.size ∧ (∃ s acc, Blk w' w1.heap.size [.slice s.1 s.2.1 s.2.2] ∧ OwnN n w' eI s (embN acc) ∧ acc ++ l = onesL v) ∧ LoopAt w' (w5.heap.size + 1) rec .ready none ∧ w'.heap[w5.heap.size]? = some (.deferred (some []))
  have hsw := h1.size
  refine Calls.mono (ones1_ok (w := W) (v := v) (b := b) (y := w5.heap.size + 1) J (hb5.ext e5) ?_ ?_ ?_ ?_) ?_
  · refine ⟨((hw3.trans h4).trans h5).trans e5, Nat.le_of_eq szW.symm, ⟨(none, 0, 0), [], ((bk3.ext h4).ext h5).ext e5, OwnN.nil _ _ _, rfl⟩, ?_, ?_⟩
    · have := alloc_self (w5.alloc (.deferred (some []))) (.loop rec)
      rw [sz5] at this
      unfold LoopAt; rw [this, ← hrec]
    · exact (Ext.alloc _ _).obj (alloc_self w5 _)
  · rintro l a a' ⟨j1, j0, ⟨s, acc, j2, jo, j3⟩, j4, j5⟩ ha
    exact ⟨j1.trans ha, Nat.le_trans j0 ha.size, ⟨s, acc, j2.ext ha, jo.ext ha, j3⟩, j4.ext ha, ha.obj j5⟩
  · rintro l a x ⟨j1, j0, ⟨s, acc, j2, jo, j3⟩, j4, j5⟩
    have n1 : w1.heap.size ≠ b := by omega
    refine ⟨j1.putP (a := ⟨b, 0, none⟩) (by show _ ≤ b; omega) _, Nat.le_trans j0 (Nat.le_of_eq (putAt_size _ _ _ _).symm), ⟨s, acc, j2.putNe n1 _, jo.putP (by show b < _; omega) _, j3⟩, j4.putP (by show _ ≠ b; omega) _, ?_⟩
    rw [← j5]
    exact putAt_ne _ _ ⟨b, 0, none⟩ 0 _ (by show _ ≠ b; omega)
  · rintro i l a u R ⟨j1, j0, ⟨s, acc, j2, jo, j3⟩, j4, j5⟩ _ hbl hR
    have hal : (embN acc).length < 64 := by
      have := congrArg List.length j3
      simp only [List.length_append, List.length_cons] at this
      simp only [embN, List.length_map]; omega
    refine hyield ((i : Int), ()) a R ⟨⟨none, j4⟩, rfl, fun a5 ha5 => ⟨none, j4.ext ha5, s, ((j2.ext ha5).putL (by omega) rec .busy none).rd1 rfl, fun a6 ha6 a7 ha7 => ?_⟩⟩
    have o5 : OwnN n (putL a5 (w5.heap.size + 1) rec .busy none) eI s (embN acc) := (jo.ext ha5).putL (by omega) rec .busy none
    have s5 : n ≤ (putL a5 (w5.heap.size + 1) rec .busy none).heap.size := Nat.le_trans (Nat.le_trans j0 ha5.size) (Nat.le_of_eq (putObj_size _ _ _).symm)
    refine own_pushN (x := (i : Int)) o5 s5 rfl ha6 (show Ext (a6.alloc (.cells ⟨cellsOf eI (i : Int)⟩ 3)) a7 from ha7) rfl (by omega) fun s' w' ho' hbw a8 ha8 => ?_
    have b5 := (j2.ext ha5).putL (k := w5.heap.size + 1) (by omega) rec .busy none
    have b8 := (hbw.blk (by omega) b5).ext ha8
    refine ⟨⟨rfl, b8.st (by simp)⟩, fun a9 ha9 => ⟨.busy, none, ?_, hR _ ⟨?_, ?_, ⟨s', acc ++ [i], ?_, ?_, by simpa using j3⟩, ?_, ?_⟩ ?_⟩⟩
    all_goals have sz8 := Nat.le_trans s5 hbw.size
    · exact (((hbw.loopAt (by omega) ((j4.ext ha5).put .busy none)).ext ha8).putP (by show _ ≠ w1.heap.size; omega) _).ext ha9
    · exact Ext.putL (((((hbw.ext0 ((j1.trans ha5).putL (b := w5.heap.size + 1) (by omega) rec .busy none) (by omega))).trans ha8).putP (a := ⟨w1.heap.size, 0, none⟩) h1.size _).trans ha9) (by omega) rec .ready none
    · refine Nat.le_trans (Nat.le_trans (Nat.le_trans sz8 ha8.size) ?_) (Nat.le_of_eq (putObj_size _ _ _).symm)
      exact Nat.le_trans (Nat.le_of_eq (putAt_size _ _ _ _).symm) ha9.size
    · exact ((b8.put1 _).ext ha9).putL (by omega) rec .ready none
    · have e1 : embN (acc ++ [i]) = embN acc ++ [(i : Int)] := by simp [embN]
      rw [e1]
      exact (((ho'.ext ha8).putP (a := ⟨w1.heap.size, 0, none⟩) (by show w1.heap.size < _; omega) _).ext ha9).putL (by omega) rec .ready none
    · exact LoopAt.put ((((hbw.loopAt (by omega) ((j4.ext ha5).put .busy none)).ext ha8).putP (a := ⟨w1.heap.size, 0, none⟩) (by show _ ≠ w1.heap.size; omega) _).ext ha9) .ready none
    · have k1 := ha5.obj j5
      have k2 : (putL a5 (w5.heap.size + 1) rec .busy none).heap[w5.heap.size]? = some (.deferred (some [])) := by rw [← k1]; exact putObj_ne (by omega)
      have k3 := ha8.obj ((hbw.block w5.heap.size (by omega)).trans k2)
      have k4 : (putP a8 (some ⟨w1.heap.size, 0, none⟩) [Value.slice s'.1 s'.2.1 s'.2.2]).heap[w5.heap.size]? = some (.deferred (some [])) := by
        rw [← k3]; exact putAt_ne _ _ ⟨w1.heap.size, 0, none⟩ 0 _ (by show _ ≠ w1.heap.size; omega)
      have k5 := ha9.obj k4
      show (putL a9 (w5.heap.size + 1) rec .ready none).heap[w5.heap.size]? = _
      rw [← k5]; exact putObj_ne (by omega)
    · exact ((((hbw.blk (by omega) ((hbl.ext ha5).putL (k := w5.heap.size + 1) (by omega) rec .busy none)).ext ha8).putNe (a := ⟨w1.heap.size, 0, none⟩) (by show _ ≠ w1.heap.size; omega) _).ext ha9).putL (by omega) rec .ready none
  · rintro e a ⟨x, he, j1, j0, ⟨s, acc, j2, jo, j3⟩, j4, j5⟩
    refine ⟨x, he, .ready, none, j4, by simp, s, (j2.putL (by omega) rec .exhausted none).rd1 rfl, fun a1 ha1 => ?_⟩
    have k1 : (putL a (w5.heap.size + 1) rec .exhausted none).heap[w5.heap.size]? = some (.deferred (some [])) := by rw [← j5]; exact putObj_ne (by omega)
    rw [List.append_nil] at j3
    subst j3
    refine ⟨⟨ha1.obj k1, trivial⟩, OwnN.of (n := n) ?_ (by omega), ?_⟩
    · show OwnN n (a1.putObj w5.heap.size (.deferred none)) eI s _
      exact ((jo.putL (by omega) rec .exhausted none).ext ha1).same fun k hk _ => putObj_ne (by omega)
    · show Ext w (a1.putObj w5.heap.size (.deferred none))
      exact Ext.putObj ((j1.putL (b := w5.heap.size + 1) (by omega) rec .exhausted none).trans ha1) (by omega) _
end Go.Proofs.Ytmdcalknhbhlcaa
