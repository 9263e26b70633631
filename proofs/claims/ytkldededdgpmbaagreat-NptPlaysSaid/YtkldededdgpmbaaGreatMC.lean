import Derived.Test.YtkldededdgpmbaaGreatMA
import Derived.Test.YtkldededdgpmbaaGreatMB
namespace Go.Proofs.YtkldededdgpmbaaGreat.D
set_option linter.unusedSimpArgs false
set_option linter.unusedVariables false
set_option maxRecDepth 100000
open Go.RX
noncomputable def D0 : Cfg Tryz.prog := { C3 with share := true }
theorem leads_vc (a : Int) (w : World) (Post : Option Addr × Nat × Nat → World → Prop) : (rxFn D0 (fun _ => []) 141 [.int .i64 a] w Post) = (
 ∀ (w1 : World),
  Ext w w1 →
   AlP (w1.alloc (Obj.map { toList := [] } 0)) { toList := [Value.int IntKind.i64 1, Value.int IntKind.i64 2, Value.int IntKind.i64 3, Value.int IntKind.i64 4] } 3 fun (b : Nat) (w2 : World) =>
    ∀ (w1_1 : World),
     Ext w2 w1_1 →
      ∃ (r : Nat),
       ∃ (es : Array MapEntry),
        ∃ (clock : Nat),
         some w1.heap.size = some r ∧
          MapO w1_1 r es clock ∧
           mUp w1_1 r IntKind.i64 0 (Value.slice (some { block := b, off := 0 }) 4 4) es clock fun (w2 : World) =>
            AlP w2 { toList := [Value.int IntKind.i64 0, Value.int IntKind.i64 2, Value.int IntKind.i64 3, Value.int IntKind.i64 4] } 3 fun (b : Nat) (w2 : World) =>
             ∀ (w1_2 : World),
              Ext w2 w1_2 →
               ∃ (r : Nat),
                ∃ (es : Array MapEntry),
                 ∃ (clock : Nat),
                  some w1.heap.size = some r ∧
                   MapO w1_2 r es clock ∧
                    mUp w1_2 r IntKind.i64 1 (Value.slice (some { block := b, off := 0 }) 4 4) es clock fun (w2 : World) =>
                     AlP w2 { toList := [Value.int IntKind.i64 5, Value.int IntKind.i64 0] } 3 fun (b : Nat) (w2 : World) =>
                      ∀ (w1_3 : World),
                       Ext w2 w1_3 →
                        ∃ (r : Nat),
                         ∃ (es : Array MapEntry),
                          ∃ (clock : Nat),
                           some w1.heap.size = some r ∧
                            MapO w1_3 r es clock ∧
                             mUp w1_3 r IntKind.i64 2 (Value.slice (some { block := b, off := 0 }) 2 2) es clock fun (w2 : World) =>
                              AlP w2 { toList := [Value.int IntKind.i64 5, Value.int IntKind.i64 0] } 3 fun (b : Nat) (w2 : World) =>
                               ∀ (w1_4 : World),
                                Ext w2 w1_4 →
                                 ∃ (r : Nat),
                                  ∃ (es : Array MapEntry),
                                   ∃ (clock : Nat),
                                    some w1.heap.size = some r ∧
                                     MapO w1_4 r es clock ∧
                                      mUp w1_4 r IntKind.i64 3 (Value.slice (some { block := b, off := 0 }) 2 2) es clock fun (w2 : World) =>
                                       AlP w2 { toList := [Value.int IntKind.i64 5, Value.int IntKind.i64 0, Value.int IntKind.i64 4] } 3 fun (b : Nat) (w2 : World) =>
                                        ∀ (w1_5 : World),
                                         Ext w2 w1_5 →
                                          ∃ (r : Nat),
                                           ∃ (es : Array MapEntry),
                                            ∃ (clock : Nat),
                                             some w1.heap.size = some r ∧
                                              MapO w1_5 r es clock ∧
                                               mUp w1_5 r IntKind.i64 4 (Value.slice (some { block := b, off := 0 }) 3 3) es clock fun (w2 : World) =>
                                                AlP w2 { toList := [Value.int IntKind.i64 0] } 3 fun (b : Nat) (w2 : World) =>
                                                 ∀ (w1_6 : World),
                                                  Ext w2 w1_6 →
                                                   ∃ (r : Nat),
                                                    ∃ (es : Array MapEntry),
                                                     ∃ (clock : Nat),
                                                      some w1.heap.size = some r ∧
                                                       MapO w1_6 r es clock ∧
                                                        mUp w1_6 r IntKind.i64 5 (Value.slice (some { block := b, off := 0 }) 1 1) es clock fun (w2 : World) =>
                                                         ∃ (x : Option Addr × Nat × Nat),
                                                          lookO w2 (some w1.heap.size) IntKind.i64 a (Value.slice none 0 0) (Value.slice x.fst x.snd.fst x.snd.snd) ∧ EnP w2 fun (w1 : World) => Post (x.fst, x.snd.fst, x.snd.snd) w1) := by kernel_rfl
def can_vc_ann : Nat → Slots := (fun | 2 => [(10, Go.RX.El.one (Go.RX.Sc.int Go.IntKind.i64))] | _ => [])
theorem can_vc (a b : Int) (w : World) (Post : Bool → World → Prop) : (rxFn D0 can_vc_ann 128 [.int .i64 a, .int .i64 b] w Post) = (
 CaP Tryz.prog 141 (Sh.el (El.one Sc.slice)) [Value.int IntKind.i64 a] w fun (x : Option Addr × Nat × Nat) (w2 : World) =>
  ∀ (x_1 : Int),
   x_1 = (↑x.snd.fst : Int) →
    ∃ (I : Nat → Int × Unit → World → Prop),
     (∃ (n : Nat), ∀ (w1 : World), Ext w2 w1 → I n (0, Unit.unit) w1) ∧
      ∀ (n : Nat) (s : Int × Unit) (w1 : World),
       I n s w1 →
        brP (decide (s.fst < x_1))
         ((x.fst.isSome = true ∧ 0 ≤ s.fst ∧ s.fst < (↑x.snd.fst : Int)) ∧
          LdP w1 none (addP x.fst (Int.toNat s.fst * 1)) (El.one (Sc.int IntKind.i64)) fun (x : Int) =>
           brP (x == b) (EnP w1 fun (w1 : World) => Post true w1) (∀ (x : Int), x = addI IntKind.i64 s.fst 1 → ∀ (w3 : World), Ext w1 w3 → ∃ (n' : Nat), n' < n ∧ I n' (x, Unit.unit) w3))
         (EnP w1 fun (w1 : World) => Post false w1)) := by kernel_rfl
theorem rleads_vc (a b : Int) (w : World) (Post : Bool → World → Prop) : (rxFn D0 (fun _ => []) 131 [.int .i64 a, .int .i64 b] w Post) = (
 brP (a == 0) (EnP w fun (w1 : World) => Post (decide (b ≥ 1) && decide (b ≤ 4)) w1)
  (brP (a == 1) (EnP w fun (w1 : World) => Post (b == 0 || decide (b ≥ 2) && decide (b ≤ 4)) w1)
   (brP (a == 2) (brP (a == 2) (EnP w fun (w1 : World) => Post (b == 5 || b == 0) w1) (brP (a == 4) (EnP w fun (w1 : World) => Post (b == 5 || b == 0 || b == 4) w1) (EnP w fun (w1 : World) => Post (b == 0) w1)))
    (brP (a == 3) (EnP w fun (w1 : World) => Post (b == 5 || b == 0) w1) (brP (a == 4) (EnP w fun (w1 : World) => Post (b == 5 || b == 0 || b == 4) w1) (EnP w fun (w1 : World) => Post (b == 0) w1)))))) := by kernel_rfl
theorem within_vc (n m : Int) (w : World) (Post : Bool → World → Prop) : (rxFn D0 (fun _ => []) 142 [.int .i64 n, .int .i64 m] w Post) = (
 EnP w fun (w1 : World) => Post (decide (n ≥ 0) && decide (n ≤ m)) w1) := by kernel_rfl
theorem mUp_new {w : World} {r : Nat} {k : IntKind} {n : Int} {val : Value} {es : Array MapEntry} {clock : Nat} {K : World → Prop} (h : Instr.findNow (.int k) (.int k n) es.toList 0 = some none)
    (hk : K (w.putObj r (.map (es.push { key := .int k n, val, born := clock }) (clock + 1)))) : mUp w r k n val es clock K := by
  unfold mUp
  rw [h]; exact hk
/-- A key that is new, with a slice that is new. -/
theorem lit_step {w0 wA wB : World} {r : Nat} {es : Array MapEntry} {clock : Nat} {l : List Value} {t : TypeId} {n : Int} {bs : List (Nat × List Value)} {val : Value} {K : World → Prop}
    (hE : Ext w0 wA) (hr : w0.heap.size ≤ r) (hm : MapO wA r es clock) (hb : ∀ x ∈ bs, Blk wA x.1 x.2 ∧ x.1 ≠ r) (h2 : Ext (wA.alloc (.cells ⟨l⟩ t)) wB)
    (hf : Instr.findNow (.int .i64) (.int .i64 n) es.toList 0 = some none)
    (k : ∀ w2, Ext w0 w2 → MapO w2 r (es.push { key := .int .i64 n, val, born := clock }) (clock + 1) → (∀ x ∈ (wA.heap.size, l) :: bs, Blk w2 x.1 x.2 ∧ x.1 ≠ r) → K w2) :
    ∃ r' es' clock', some r = some r' ∧ MapO wB r' es' clock' ∧ mUp wB r' .i64 n val es' clock' K := by
  have hm' : wA.heap[r]? = some (.map es clock) := hm
  have hlt : r < wA.heap.size := (Array.getElem?_eq_some_iff.1 hm').1
  have e2 : Ext wA wB := (Ext.alloc wA _).trans h2
  have hmB : wB.heap[r]? = some (.map es clock) := e2.obj hm'
  refine ⟨r, es, clock, rfl, hmB, mUp_new hf (k _ ((hE.trans e2).putObj hr _) ?_ ?_)⟩
  · exact putObj_self (Array.getElem?_eq_some_iff.1 hmB).1
  · intro x hx
    rcases List.mem_cons.1 hx with rfl | hx
    · have : wA.heap.size ≠ r := by omega
      exact ⟨((Blk.new wA l t).ext h2).putObj this _, this⟩
    · exact ⟨((hb x hx).1.ext e2).putObj (hb x hx).2 _, (hb x hx).2⟩
/-- Which kinds a kind can change to. -/
def leadsL (a : Int) : List Int := if a = 0 then [1, 2, 3, 4] else if a = 1 then [0, 2, 3, 4] else if a = 2 then [5, 0] else if a = 3 then [5, 0] else if a = 4 then [5, 0, 4] else if a = 5 then [0] else []
theorem leads_ok (a : Int) (w : World) : CallsR Tryz.prog 141 (.el (.one .slice)) [.int .i64 a] w (fun r w' => Sl w' eI r.1 (leadsL a) ∧ r.2.1 = (leadsL a).length ∧ Ext w w') := by
  refine rxFn_ok (C := D0) (ann := fun _ => []) (Eq.mpr (leads_vc a w _) ?_)
  intro w1 h1 w2 h2 w3 h3
  have m0 : MapO w2 w1.heap.size #[] 0 := h2.obj (alloc_self w1 _)
  have step : ∀ {W : World} {bs : List (Nat × List Value)} {r : Nat}, (∀ x ∈ bs, Blk W x.1 x.2 ∧ x.1 ≠ r) → ∀ {W' : World}, Ext W W' → ∀ x ∈ bs, Blk W' x.1 x.2 ∧ x.1 ≠ r :=
    fun h _ e x hx => ⟨(h x hx).1.ext e, (h x hx).2⟩
  refine lit_step (bs := []) ((h1.allocd _).trans h2) h1.size m0 (fun x hx => by cases hx) h3 rfl fun W0 E0 M0 B0 w4 h4 w5 h5 => ?_
  refine lit_step (E0.trans h4) h1.size (h4.obj M0) (step B0 h4) h5 rfl fun W1 E1 M1 B1 w6 h6 w7 h7 => ?_
  refine lit_step (E1.trans h6) h1.size (h6.obj M1) (step B1 h6) h7 rfl fun W2 E2 M2 B2 w8 h8 w9 h9 => ?_
  refine lit_step (E2.trans h8) h1.size (h8.obj M2) (step B2 h8) h9 rfl fun W3 E3 M3 B3 w10 h10 w11 h11 => ?_
  refine lit_step (E3.trans h10) h1.size (h10.obj M3) (step B3 h10) h11 rfl fun W4 E4 M4 B4 w12 h12 w13 h13 => ?_
  refine lit_step (E4.trans h12) h1.size (h12.obj M4) (step B4 h12) h13 rfl fun W5 E5 M5 B5 => ?_
  have b0 := (B5 (w2.heap.size, [Value.int .i64 1, Value.int .i64 2, Value.int .i64 3, Value.int .i64 4]) (by simp)).1
  have b1 := (B5 (w4.heap.size, [Value.int .i64 0, Value.int .i64 2, Value.int .i64 3, Value.int .i64 4]) (by simp)).1
  have b2 := (B5 (w6.heap.size, [Value.int .i64 5, Value.int .i64 0]) (by simp)).1
  have b3 := (B5 (w8.heap.size, [Value.int .i64 5, Value.int .i64 0]) (by simp)).1
  have b4 := (B5 (w10.heap.size, [Value.int .i64 5, Value.int .i64 0, Value.int .i64 4]) (by simp)).1
  have b5 := (B5 (w12.heap.size, [Value.int .i64 0]) (by simp)).1
  have fin : ∀ (x : Option Addr × Nat × Nat), lookO W5 (some w1.heap.size) .i64 a (.slice none 0 0) (.slice x.1 x.2.1 x.2.2) → Sl W5 eI x.1 (leadsL a) → x.2.1 = (leadsL a).length →
      ∃ x : Option Addr × Nat × Nat, lookO W5 (some w1.heap.size) .i64 a (.slice none 0 0) (.slice x.1 x.2.1 x.2.2) ∧ ∀ w14, Ext W5 w14 → Sl w14 eI (x.1, x.2.1, x.2.2).1 (leadsL a) ∧ (x.1, x.2.1, x.2.2).2.1 = (leadsL a).length ∧ Ext w w14 :=
    fun x hl hs hn => ⟨x, hl, fun w14 h14 => ⟨hs.ext h14, hn, E5.trans h14⟩⟩
  by_cases c0 : a = 0
  · subst c0
    exact fin (some ⟨w2.heap.size, 0, none⟩, 4, 4) ⟨_, _, _, rfl, M5, rfl⟩ (Sl.of_blk b0 rfl) rfl
  by_cases c1 : a = 1
  · subst c1
    exact fin (some ⟨w4.heap.size, 0, none⟩, 4, 4) ⟨_, _, _, rfl, M5, rfl⟩ (Sl.of_blk b1 rfl) rfl
  by_cases c2 : a = 2
  · subst c2
    exact fin (some ⟨w6.heap.size, 0, none⟩, 2, 2) ⟨_, _, _, rfl, M5, rfl⟩ (Sl.of_blk b2 rfl) rfl
  by_cases c3 : a = 3
  · subst c3
    exact fin (some ⟨w8.heap.size, 0, none⟩, 2, 2) ⟨_, _, _, rfl, M5, rfl⟩ (Sl.of_blk b3 rfl) rfl
  by_cases c4 : a = 4
  · subst c4
    exact fin (some ⟨w10.heap.size, 0, none⟩, 3, 3) ⟨_, _, _, rfl, M5, rfl⟩ (Sl.of_blk b4 rfl) rfl
  by_cases c5 : a = 5
  · subst c5
    exact fin (some ⟨w12.heap.size, 0, none⟩, 1, 1) ⟨_, _, _, rfl, M5, rfl⟩ (Sl.of_blk b5 rfl) rfl
  have hL : leadsL a = [] := by
    unfold leadsL
    rw [if_neg c0, if_neg c1, if_neg c2, if_neg c3, if_neg c4, if_neg c5]
  refine fin (none, 0, 0) ⟨_, _, _, rfl, M5, ?_⟩ (by rw [hL]; intro i x hx; simp at hx) (by rw [hL]; rfl)
  have d0 : (a == 0) = false := by simp [c0]
  have d1 : (a == 1) = false := by simp [c1]
  have d2 : (a == 2) = false := by simp [c2]
  have d3 : (a == 3) = false := by simp [c3]
  have d4 : (a == 4) = false := by simp [c4]
  have d5 : (a == 5) = false := by simp [c5]
  simp only [Array.toList_push, List.nil_append, List.cons_append, Instr.findNow, Instr.sameNow, if_true, Nat.zero_add, d0, d1, d2, d3, d4, d5]
theorem leads_len (a : Int) : (leadsL a).length ≤ 4 := by
  unfold leadsL
  repeat (split; · decide)
  decide
theorem can_ok (a b : Int) (w : World) : CallsR Tryz.prog 128 (.el (.one .bool)) [.int .i64 a, .int .i64 b] w (fun x w' => x = decide (b ∈ leadsL a) ∧ Ext w w') := by
  refine rxFn_ok (C := D0) (ann := can_vc_ann) (Eq.mpr (can_vc a b w _) ?_)
  intro w1 h1
  refine (leads_ok a w1).mono ?_
  rintro ⟨p, n, c⟩ w2 ⟨hs, hn, h2⟩ x1 e1
  dsimp only at e1 hn hs
  subst e1
  have hl := leads_len a
  refine ⟨fun k s w' => Ext w2 w' ∧ ∃ i : Nat, s.1 = i ∧ k + i = n ∧ ∀ j, j < i → (leadsL a)[j]? ≠ some b, ⟨n, fun w3 h3 => ⟨h3, 0, rfl, rfl, fun j hj => absurd hj (by omega)⟩⟩, ?_⟩
  rintro k ⟨i', u⟩ w3 ⟨h3, i, hi, hk, hj⟩
  simp only at hi
  subst hi
  dsimp only
  refine brP_intro (fun h => ?_) (fun h => fun w4 h4 => ⟨?_, ((h1.trans h2).trans h3).trans h4⟩)
  · simp only [decide_eq_true_eq] at h
    have hil : i < (leadsL a).length := by omega
    have r := (hs.ext h3) i _ (List.getElem?_eq_getElem hil)
    refine ⟨⟨r.1, by omega, by omega⟩, _, r.2, brP_intro (fun he w4 h4 => ⟨?_, ((h1.trans h2).trans h3).trans h4⟩) (fun he x ex w4 h4 => ⟨k - 1, by omega, h3.trans h4, i + 1, by rw [ex, addI_i64 (by omega) (by omega)]; rfl, by omega, ?_⟩)⟩
    · have : (leadsL a)[i] = b := by simpa using he
      have hm : b ∈ leadsL a := by rw [← this]; exact List.getElem_mem hil
      simp [hm]
    · intro j hj'
      by_cases e : j = i
      · subst e
        rw [List.getElem?_eq_getElem hil]
        intro hc
        simp only [Option.some.injEq] at hc
        simp [hc] at he
      · exact hj j (by omega)
  · simp only [decide_eq_false_iff_not] at h
    have : ¬ b ∈ leadsL a := by
      intro hm
      obtain ⟨j, hj1⟩ := List.getElem?_of_mem hm
      have := (List.getElem?_eq_some_iff.1 hj1).1
      exact hj j (by omega) hj1
    simp [this]
end Go.Proofs.YtkldededdgpmbaaGreat.D
namespace Go.Proofs.YtkldededdgpmbaaGreat.D
set_option linter.unusedSimpArgs false
set_option linter.unusedVariables false
set_option maxRecDepth 100000
open Go.RX
noncomputable def eCan : Entry Tryz.prog where
  f := 128
  fn l := match l with
    | [.int .i64 a, .int .i64 b] => some (True, .bool (decide (b ∈ leadsL a)))
    | _ => none
  ok args pre v h hp w := by
    split at h
    · rename_i a b
      cases h
      exact entry_of (can_ok a b w)
    · cases h
/-- Is there a way from one kind to another one? -/
def rlI (a b : Int) : Bool := if a = 0 then decide (b ≥ 1) && decide (b ≤ 4) else if a = 1 then b == 0 || decide (b ≥ 2) && decide (b ≤ 4) else if a = 2 then b == 5 || b == 0 else if a = 3 then b == 5 || b == 0 else if a = 4 then b == 5 || b == 0 || b == 4 else b == 0
theorem rleads_ok (a b : Int) (w : World) : CallsR Tryz.prog 131 (.el (.one .bool)) [.int .i64 a, .int .i64 b] w (fun x w' => x = rlI a b ∧ Ext w w') := by
  refine rxFn_ok (C := D0) (ann := fun _ => []) (Eq.mpr (rleads_vc a b w _) ?_)
  refine brP_intro (fun h0 w1 h1 => ⟨?_, h1⟩) (fun h0 => brP_intro (fun h1 w1 k1 => ⟨?_, k1⟩) (fun h1 => brP_intro (fun h2 => brP_intro (fun _ w1 k1 => ⟨?_, k1⟩) (fun n2 => by rw [h2] at n2; cases n2)) (fun h2 => brP_intro (fun h3 w1 k1 => ⟨?_, k1⟩) (fun h3 => brP_intro (fun h4 w1 k1 => ⟨?_, k1⟩) (fun h4 w1 k1 => ⟨?_, k1⟩)))))
  all_goals simp only [beq_iff_eq, beq_eq_false_iff_ne, ne_eq] at *
  · unfold rlI; rw [if_pos h0]
  · unfold rlI; rw [if_neg h0, if_pos h1]
  · unfold rlI; rw [if_neg h0, if_neg h1, if_pos h2]
  · unfold rlI; rw [if_neg h0, if_neg h1, if_neg h2, if_pos h3]
  · unfold rlI; rw [if_neg h0, if_neg h1, if_neg h2, if_neg h3, if_pos h4]
  · unfold rlI; rw [if_neg h0, if_neg h1, if_neg h2, if_neg h3, if_neg h4]
/-- The two ways say the same of kinds that are. -/
theorem leads_rl {a : Int} (b : Int) (h : 0 ≤ a ∧ a ≤ 5) : decide (b ∈ leadsL a) = rlI a b := by
  have : a = 0 ∨ a = 1 ∨ a = 2 ∨ a = 3 ∨ a = 4 ∨ a = 5 := by omega
  rw [Bool.eq_iff_iff, decide_eq_true_eq]
  rcases this with rfl | rfl | rfl | rfl | rfl | rfl <;> simp [leadsL, rlI] <;> omega
noncomputable def eRLeads : Entry Tryz.prog where
  f := 131
  fn l := match l with
    | [.int .i64 a, .int .i64 b] => some (True, .bool (rlI a b))
    | _ => none
  ok args pre v h hp w := by
    split at h
    · rename_i a b
      cases h
      exact entry_of (rleads_ok a b w)
    · cases h
noncomputable def eWithin : Entry Tryz.prog where
  f := 142
  fn l := match l with
    | [.int .i64 n, .int .i64 m] => some (True, .bool (decide (n ≥ 0) && decide (n ≤ m)))
    | _ => none
  ok args pre v h hp w := by
    split at h
    · rename_i n m
      cases h
      exact entry_of (x := decide (n ≥ 0) && decide (n ≤ m)) (rxFn_ok (C := D0) (ann := fun _ => []) (Eq.mpr (within_vc n m w _) fun w1 h1 => ⟨rfl, h1⟩))
    · cases h
noncomputable def D1 : Cfg Tryz.prog := { D0 with tab := [eFits, eIs, eBit, eOne, eMask, eRGet, eGet, ePut, eCan, eRLeads, eWithin] }
theorem right_vc (k o r e : Int) (w : World) (Post : Bool → World → Prop) : (rxFn D1 (fun _ => []) 127 [.agg ⟨[.int .i64 k, .int .i64 o, .int .i64 r, .int .i64 e]⟩] w Post) = (
 AlP w { toList := [Value.int IntKind.i64 k, Value.int IntKind.i64 o, Value.int IntKind.i64 r, Value.int IntKind.i64 e] } 68 fun (b : Nat) (w2 : World) =>
  true = true ∧
   LdP w2 none (addP (some { block := b, off := 0 }) 1) (El.one (Sc.int IntKind.i64)) fun (x : Int) =>
    ((!decide (x < 0)) = true → true = true) ∧
     LdP w2 (some !decide (x < 0)) (addP (some { block := b, off := 0 }) 1) (El.one (Sc.int IntKind.i64)) fun (x_1 : Int) =>
      ((!(decide (x < 0) || decide (x_1 > 16))) = true → true = true) ∧
       LdP w2 (some !(decide (x < 0) || decide (x_1 > 16))) (addP (some { block := b, off := 0 }) 2) (El.one (Sc.int IntKind.i64)) fun (x_2 : Int) =>
        ((!(decide (x < 0) || decide (x_1 > 16) || decide (x_2 < 0))) = true → true = true) ∧
         LdP w2 (some !(decide (x < 0) || decide (x_1 > 16) || decide (x_2 < 0))) (addP (some { block := b, off := 0 }) 2) (El.one (Sc.int IntKind.i64)) fun (x_3 : Int) =>
          ((!(decide (x < 0) || decide (x_1 > 16) || decide (x_2 < 0) || decide (x_3 > 65535))) = true → true = true) ∧
           LdP w2 (some !(decide (x < 0) || decide (x_1 > 16) || decide (x_2 < 0) || decide (x_3 > 65535))) (addP (some { block := b, off := 0 }) 3) (El.one (Sc.int IntKind.i64)) fun (x_4 : Int) =>
            ((!(decide (x < 0) || decide (x_1 > 16) || decide (x_2 < 0) || decide (x_3 > 65535) || decide (x_4 < 0))) = true → true = true) ∧
             LdP w2 (some !(decide (x < 0) || decide (x_1 > 16) || decide (x_2 < 0) || decide (x_3 > 65535) || decide (x_4 < 0))) (addP (some { block := b, off := 0 }) 3) (El.one (Sc.int IntKind.i64)) fun (x_5 : Int) =>
              brP (decide (x < 0) || decide (x_1 > 16) || decide (x_2 < 0) || decide (x_3 > 65535) || decide (x_4 < 0) || decide (x_5 > 4294967295)) (EnP w2 fun (w1 : World) => Post false w1)
               (true = true ∧
                LdP w2 none (addP (some { block := b, off := 0 }) 0) (El.one (Sc.int IntKind.i64)) fun (x : Int) =>
                 brP (x == 0)
                  (brP (x == 0)
                   (LdP w2 none (some { block := b, off := 0 }) (El.agg [Sc.int IntKind.i64, Sc.int IntKind.i64, Sc.int IntKind.i64, Sc.int IntKind.i64]) fun (x : Int × Int × Int × Int × Unit) =>
                    true = true ∧
                     LdP w2 none (addP (some { block := b, off := 0 }) 0) (El.one (Sc.int IntKind.i64)) fun (x_6 : Int) =>
                      EnP w2 fun (w1 : World) => Post (x.fst == x_6 && (x.snd.fst == 0 && (x.snd.snd.fst == 0 && (x.snd.snd.snd.fst == 0 && true)))) w1)
                   (brP (x == 2)
                    (true = true ∧
                     LdP w2 none (addP (some { block := b, off := 0 }) 1) (El.one (Sc.int IntKind.i64)) fun (x : Int) =>
                      ((x == 0) = true → true = true) ∧ LdP w2 (some (x == 0)) (addP (some { block := b, off := 0 }) 3) (El.one (Sc.int IntKind.i64)) fun (x_6 : Int) => EnP w2 fun (w1 : World) => Post (x == 0 && x_6 == 0) w1)
                    (brP (x == 3)
                     (brP (x == 3)
                      (true = true ∧
                       LdP w2 none (addP (some { block := b, off := 0 }) 1) (El.one (Sc.int IntKind.i64)) fun (x : Int) =>
                        (decide (x > 0) = true → true = true) ∧ LdP w2 (some (decide (x > 0))) (addP (some { block := b, off := 0 }) 3) (El.one (Sc.int IntKind.i64)) fun (x_6 : Int) => EnP w2 fun (w1 : World) => Post (decide (x > 0) && x_6 == 0) w1)
                      (brP (x == 5) (true = true ∧ LdP w2 none (addP (some { block := b, off := 0 }) 2) (El.one (Sc.int IntKind.i64)) fun (x : Int) => EnP w2 fun (w1 : World) => Post (x == 0) w1) (EnP w2 fun (w1 : World) => Post false w1)))
                     (brP (x == 4)
                      (true = true ∧
                       LdP w2 none (addP (some { block := b, off := 0 }) 1) (El.one (Sc.int IntKind.i64)) fun (x : Int) =>
                        (decide (x > 0) = true → true = true) ∧ LdP w2 (some (decide (x > 0))) (addP (some { block := b, off := 0 }) 3) (El.one (Sc.int IntKind.i64)) fun (x_6 : Int) => EnP w2 fun (w1 : World) => Post (decide (x > 0) && x_6 == 0) w1)
                      (brP (x == 5) (true = true ∧ LdP w2 none (addP (some { block := b, off := 0 }) 2) (El.one (Sc.int IntKind.i64)) fun (x : Int) => EnP w2 fun (w1 : World) => Post (x == 0) w1) (EnP w2 fun (w1 : World) => Post false w1))))))
                  (brP (x == 1)
                   (LdP w2 none (some { block := b, off := 0 }) (El.agg [Sc.int IntKind.i64, Sc.int IntKind.i64, Sc.int IntKind.i64, Sc.int IntKind.i64]) fun (x : Int × Int × Int × Int × Unit) =>
                    true = true ∧
                     LdP w2 none (addP (some { block := b, off := 0 }) 0) (El.one (Sc.int IntKind.i64)) fun (x_6 : Int) =>
                      EnP w2 fun (w1 : World) => Post (x.fst == x_6 && (x.snd.fst == 0 && (x.snd.snd.fst == 0 && (x.snd.snd.snd.fst == 0 && true)))) w1)
                   (brP (x == 2)
                    (true = true ∧
                     LdP w2 none (addP (some { block := b, off := 0 }) 1) (El.one (Sc.int IntKind.i64)) fun (x : Int) =>
                      ((x == 0) = true → true = true) ∧ LdP w2 (some (x == 0)) (addP (some { block := b, off := 0 }) 3) (El.one (Sc.int IntKind.i64)) fun (x_6 : Int) => EnP w2 fun (w1 : World) => Post (x == 0 && x_6 == 0) w1)
                    (brP (x == 3)
                     (brP (x == 3)
                      (true = true ∧
                       LdP w2 none (addP (some { block := b, off := 0 }) 1) (El.one (Sc.int IntKind.i64)) fun (x : Int) =>
                        (decide (x > 0) = true → true = true) ∧ LdP w2 (some (decide (x > 0))) (addP (some { block := b, off := 0 }) 3) (El.one (Sc.int IntKind.i64)) fun (x_6 : Int) => EnP w2 fun (w1 : World) => Post (decide (x > 0) && x_6 == 0) w1)
                      (brP (x == 5) (true = true ∧ LdP w2 none (addP (some { block := b, off := 0 }) 2) (El.one (Sc.int IntKind.i64)) fun (x : Int) => EnP w2 fun (w1 : World) => Post (x == 0) w1) (EnP w2 fun (w1 : World) => Post false w1)))
                     (brP (x == 4)
                      (true = true ∧
                       LdP w2 none (addP (some { block := b, off := 0 }) 1) (El.one (Sc.int IntKind.i64)) fun (x : Int) =>
                        (decide (x > 0) = true → true = true) ∧ LdP w2 (some (decide (x > 0))) (addP (some { block := b, off := 0 }) 3) (El.one (Sc.int IntKind.i64)) fun (x_6 : Int) => EnP w2 fun (w1 : World) => Post (decide (x > 0) && x_6 == 0) w1)
                      (brP (x == 5) (true = true ∧ LdP w2 none (addP (some { block := b, off := 0 }) 2) (El.one (Sc.int IntKind.i64)) fun (x : Int) => EnP w2 fun (w1 : World) => Post (x == 0) w1) (EnP w2 fun (w1 : World) => Post false w1)))))))) := by kernel_rfl
theorem rright_vc (k o r e : Int) (w : World) (Post : Bool → World → Prop) : (rxFn D1 (fun _ => []) 130 [.agg ⟨[.int .i64 k, .int .i64 o, .int .i64 r, .int .i64 e]⟩] w Post) = (
 AlP w { toList := [Value.int IntKind.i64 k, Value.int IntKind.i64 o, Value.int IntKind.i64 r, Value.int IntKind.i64 e] } 88 fun (b : Nat) (w2 : World) =>
  true = true ∧
   LdP w2 none (addP (some { block := b, off := 0 }) 0) (El.one (Sc.int IntKind.i64)) fun (x : Int) =>
    True ∧
     ((!!(decide (x ≥ 0) && decide (x ≤ 5))) = true → true = true) ∧
      LdP w2 (some !!(decide (x ≥ 0) && decide (x ≤ 5))) (addP (some { block := b, off := 0 }) 1) (El.one (Sc.int IntKind.i64)) fun (x_1 : Int) =>
       ((!!(decide (x ≥ 0) && decide (x ≤ 5))) = true → True) ∧
        ((!(!(decide (x ≥ 0) && decide (x ≤ 5)) || !(decide (x_1 ≥ 0) && decide (x_1 ≤ 16)))) = true → true = true) ∧
         LdP w2 (some !(!(decide (x ≥ 0) && decide (x ≤ 5)) || !(decide (x_1 ≥ 0) && decide (x_1 ≤ 16)))) (addP (some { block := b, off := 0 }) 2) (El.one (Sc.int IntKind.i64)) fun (x_2 : Int) =>
          ((!(!(decide (x ≥ 0) && decide (x ≤ 5)) || !(decide (x_1 ≥ 0) && decide (x_1 ≤ 16)))) = true → True) ∧
           ((!(!(decide (x ≥ 0) && decide (x ≤ 5)) || !(decide (x_1 ≥ 0) && decide (x_1 ≤ 16)) || !(decide (x_2 ≥ 0) && decide (x_2 ≤ 65535)))) = true → true = true) ∧
            LdP w2 (some !(!(decide (x ≥ 0) && decide (x ≤ 5)) || !(decide (x_1 ≥ 0) && decide (x_1 ≤ 16)) || !(decide (x_2 ≥ 0) && decide (x_2 ≤ 65535)))) (addP (some { block := b, off := 0 }) 3) (El.one (Sc.int IntKind.i64)) fun (x_3 : Int) =>
             ((!(!(decide (x ≥ 0) && decide (x ≤ 5)) || !(decide (x_1 ≥ 0) && decide (x_1 ≤ 16)) || !(decide (x_2 ≥ 0) && decide (x_2 ≤ 65535)))) = true → True) ∧
              brP (!(decide (x ≥ 0) && decide (x ≤ 5)) || !(decide (x_1 ≥ 0) && decide (x_1 ≤ 16)) || !(decide (x_2 ≥ 0) && decide (x_2 ≤ 65535)) || !(decide (x_3 ≥ 0) && decide (x_3 ≤ 4294967295))) (EnP w2 fun (w1 : World) => Post false w1)
               (true = true ∧
                LdP w2 none (addP (some { block := b, off := 0 }) 0) (El.one (Sc.int IntKind.i64)) fun (x : Int) =>
                 brP (x == 0)
                  (brP (x == 0)
                   (true = true ∧
                    LdP w2 none (addP (some { block := b, off := 0 }) 1) (El.one (Sc.int IntKind.i64)) fun (x : Int) =>
                     ((x == 0) = true → true = true) ∧
                      LdP w2 (some (x == 0)) (addP (some { block := b, off := 0 }) 2) (El.one (Sc.int IntKind.i64)) fun (x_4 : Int) =>
                       ((x == 0 && x_4 == 0) = true → true = true) ∧
                        LdP w2 (some (x == 0 && x_4 == 0)) (addP (some { block := b, off := 0 }) 3) (El.one (Sc.int IntKind.i64)) fun (x_5 : Int) => EnP w2 fun (w1 : World) => Post (x == 0 && x_4 == 0 && x_5 == 0) w1)
                   (brP (x == 2)
                    (true = true ∧
                     LdP w2 none (addP (some { block := b, off := 0 }) 1) (El.one (Sc.int IntKind.i64)) fun (x : Int) =>
                      ((x == 0) = true → true = true) ∧ LdP w2 (some (x == 0)) (addP (some { block := b, off := 0 }) 3) (El.one (Sc.int IntKind.i64)) fun (x_4 : Int) => EnP w2 fun (w1 : World) => Post (x == 0 && x_4 == 0) w1)
                    (brP (x == 3)
                     (brP (x == 3)
                      (true = true ∧
                       LdP w2 none (addP (some { block := b, off := 0 }) 1) (El.one (Sc.int IntKind.i64)) fun (x : Int) =>
                        (decide (x > 0) = true → true = true) ∧ LdP w2 (some (decide (x > 0))) (addP (some { block := b, off := 0 }) 3) (El.one (Sc.int IntKind.i64)) fun (x_4 : Int) => EnP w2 fun (w1 : World) => Post (decide (x > 0) && x_4 == 0) w1)
                      (true = true ∧ LdP w2 none (addP (some { block := b, off := 0 }) 2) (El.one (Sc.int IntKind.i64)) fun (x : Int) => EnP w2 fun (w1 : World) => Post (x == 0) w1))
                     (brP (x == 4)
                      (true = true ∧
                       LdP w2 none (addP (some { block := b, off := 0 }) 1) (El.one (Sc.int IntKind.i64)) fun (x : Int) =>
                        (decide (x > 0) = true → true = true) ∧ LdP w2 (some (decide (x > 0))) (addP (some { block := b, off := 0 }) 3) (El.one (Sc.int IntKind.i64)) fun (x_4 : Int) => EnP w2 fun (w1 : World) => Post (decide (x > 0) && x_4 == 0) w1)
                      (true = true ∧ LdP w2 none (addP (some { block := b, off := 0 }) 2) (El.one (Sc.int IntKind.i64)) fun (x : Int) => EnP w2 fun (w1 : World) => Post (x == 0) w1)))))
                  (brP (x == 1)
                   (true = true ∧
                    LdP w2 none (addP (some { block := b, off := 0 }) 1) (El.one (Sc.int IntKind.i64)) fun (x : Int) =>
                     ((x == 0) = true → true = true) ∧
                      LdP w2 (some (x == 0)) (addP (some { block := b, off := 0 }) 2) (El.one (Sc.int IntKind.i64)) fun (x_4 : Int) =>
                       ((x == 0 && x_4 == 0) = true → true = true) ∧
                        LdP w2 (some (x == 0 && x_4 == 0)) (addP (some { block := b, off := 0 }) 3) (El.one (Sc.int IntKind.i64)) fun (x_5 : Int) => EnP w2 fun (w1 : World) => Post (x == 0 && x_4 == 0 && x_5 == 0) w1)
                   (brP (x == 2)
                    (true = true ∧
                     LdP w2 none (addP (some { block := b, off := 0 }) 1) (El.one (Sc.int IntKind.i64)) fun (x : Int) =>
                      ((x == 0) = true → true = true) ∧ LdP w2 (some (x == 0)) (addP (some { block := b, off := 0 }) 3) (El.one (Sc.int IntKind.i64)) fun (x_4 : Int) => EnP w2 fun (w1 : World) => Post (x == 0 && x_4 == 0) w1)
                    (brP (x == 3)
                     (brP (x == 3)
                      (true = true ∧
                       LdP w2 none (addP (some { block := b, off := 0 }) 1) (El.one (Sc.int IntKind.i64)) fun (x : Int) =>
                        (decide (x > 0) = true → true = true) ∧ LdP w2 (some (decide (x > 0))) (addP (some { block := b, off := 0 }) 3) (El.one (Sc.int IntKind.i64)) fun (x_4 : Int) => EnP w2 fun (w1 : World) => Post (decide (x > 0) && x_4 == 0) w1)
                      (true = true ∧ LdP w2 none (addP (some { block := b, off := 0 }) 2) (El.one (Sc.int IntKind.i64)) fun (x : Int) => EnP w2 fun (w1 : World) => Post (x == 0) w1))
                     (brP (x == 4)
                      (true = true ∧
                       LdP w2 none (addP (some { block := b, off := 0 }) 1) (El.one (Sc.int IntKind.i64)) fun (x : Int) =>
                        (decide (x > 0) = true → true = true) ∧ LdP w2 (some (decide (x > 0))) (addP (some { block := b, off := 0 }) 3) (El.one (Sc.int IntKind.i64)) fun (x_4 : Int) => EnP w2 fun (w1 : World) => Post (decide (x > 0) && x_4 == 0) w1)
                      (true = true ∧ LdP w2 none (addP (some { block := b, off := 0 }) 2) (El.one (Sc.int IntKind.i64)) fun (x : Int) => EnP w2 fun (w1 : World) => Post (x == 0) w1))))))) := by kernel_rfl
/-- Can it be? -/
def rightP (k o r e : Int) : Prop := (0 ≤ o ∧ o ≤ 16 ∧ 0 ≤ r ∧ r ≤ 65535 ∧ 0 ≤ e ∧ e ≤ 4294967295) ∧ (((k = 0 ∨ k = 1) ∧ o = 0 ∧ r = 0 ∧ e = 0) ∨ (k = 2 ∧ o = 0 ∧ e = 0) ∨ ((k = 3 ∨ k = 4) ∧ 0 < o ∧ e = 0) ∨ (k = 5 ∧ r = 0))
instance (k o r e : Int) : Decidable (rightP k o r e) := by unfold rightP; infer_instance
def rightD (k o r e : Int) : Bool := decide (rightP k o r e)
theorem rightD_of {k o r e : Int} {b : Bool} (h : b = true ↔ rightP k o r e) : b = rightD k o r e := by
  unfold rightD
  rw [Bool.eq_iff_iff, decide_eq_true_eq]; exact h
theorem right_ok (k o r e : Int) (w : World) : CallsR Tryz.prog 127 (.el (.one .bool)) [.agg ⟨[.int .i64 k, .int .i64 o, .int .i64 r, .int .i64 e]⟩] w (fun b w' => b = rightD k o r e ∧ Ext w w') := by
  refine rxFn_ok (C := D1) (ann := fun _ => []) (Eq.mpr (right_vc k o r e w _) ?_)
  have H := At.start [] w
  repeat' (first
    | exact Go.RX.AtD.all H
    | exact And.intro (by first | rfl | decide +kernel) (Go.RX.AtD.all H)
    | refine And.intro (by first | exact rfl | exact trivial | exact fun _ => rfl | exact fun _ => trivial | exact ⟨rfl, by decide, by decide⟩ | exact ⟨by decide, by decide⟩ | decide +kernel | exact fun _ => by decide | exact fun _ => ⟨rfl, by decide, by decide⟩ | (dsimp only [List.length_cons, List.length_nil]; exact ⟨rfl, by decide, by decide⟩)) ?_
    | refine LdP.atA 0 H rfl rfl ?_
    | refine LdP.at 0 H rfl rfl ?_
    | refine AlP.go H fun b w1 H => ?_
    | refine StP.all 0 H rfl rfl rfl fun w1 H => ?_
    | refine StP.oneA 0 H rfl rfl rfl fun w1 H => ?_
    | refine StP.one 0 H rfl rfl rfl fun w1 H => ?_
    | with_reducible refine EnP.go H fun w1 H => ?_
    | refine shr_go ?_
    | refine brP_pos (by assumption) ?_
    | refine brP_neg (by assumption) ?_
    | refine brP_intro (fun c => ?_) (fun c => ?_))
  all_goals
    refine And.intro (rightD_of ?_) H.all
    simp only [Bool.or_eq_true, Bool.or_eq_false_iff, Bool.and_eq_true, Bool.and_eq_false_iff, beq_iff_eq, beq_eq_false_iff_ne, bne_iff_ne, bne_eq_false_iff_eq, decide_eq_true_eq, decide_eq_false_iff_not, Bool.false_eq_true, Bool.true_eq_false, Bool.not_eq_true', Bool.not_eq_false', and_true, true_and, and_false, false_and, or_true, true_or, or_false, false_or, ne_eq, not_true_eq_false, not_false_eq_true, false_iff, iff_false, true_iff, iff_true] at *
    unfold rightP
    omega
theorem rright_ok (k o r e : Int) (w : World) : CallsR Tryz.prog 130 (.el (.one .bool)) [.agg ⟨[.int .i64 k, .int .i64 o, .int .i64 r, .int .i64 e]⟩] w (fun b w' => b = rightD k o r e ∧ Ext w w') := by
  refine rxFn_ok (C := D1) (ann := fun _ => []) (Eq.mpr (rright_vc k o r e w _) ?_)
  have H := At.start [] w
  repeat' (first
    | exact Go.RX.AtD.all H
    | exact And.intro (by first | rfl | decide +kernel) (Go.RX.AtD.all H)
    | refine And.intro (by first | exact rfl | exact trivial | exact fun _ => rfl | exact fun _ => trivial | exact ⟨rfl, by decide, by decide⟩ | exact ⟨by decide, by decide⟩ | decide +kernel | exact fun _ => by decide | exact fun _ => ⟨rfl, by decide, by decide⟩ | (dsimp only [List.length_cons, List.length_nil]; exact ⟨rfl, by decide, by decide⟩)) ?_
    | refine LdP.atA 0 H rfl rfl ?_
    | refine LdP.at 0 H rfl rfl ?_
    | refine AlP.go H fun b w1 H => ?_
    | refine StP.all 0 H rfl rfl rfl fun w1 H => ?_
    | refine StP.oneA 0 H rfl rfl rfl fun w1 H => ?_
    | refine StP.one 0 H rfl rfl rfl fun w1 H => ?_
    | with_reducible refine EnP.go H fun w1 H => ?_
    | refine shr_go ?_
    | refine brP_pos (by assumption) ?_
    | refine brP_neg (by assumption) ?_
    | refine brP_intro (fun c => ?_) (fun c => ?_))
  all_goals
    refine And.intro (rightD_of ?_) H.all
    simp only [Bool.or_eq_true, Bool.or_eq_false_iff, Bool.and_eq_true, Bool.and_eq_false_iff, beq_iff_eq, beq_eq_false_iff_ne, bne_iff_ne, bne_eq_false_iff_eq, decide_eq_true_eq, decide_eq_false_iff_not, Bool.false_eq_true, Bool.true_eq_false, Bool.not_eq_true', Bool.not_eq_false', and_true, true_and, and_false, false_and, or_true, true_or, or_false, false_or, ne_eq, not_true_eq_false, not_false_eq_true, false_iff, iff_false, true_iff, iff_true] at *
    unfold rightP
    omega
noncomputable def eRight : Entry Tryz.prog where
  f := 127
  fn l := match l with
    | [.agg ⟨[.int .i64 k, .int .i64 o, .int .i64 r, .int .i64 e]⟩] => some (True, .bool (rightD k o r e))
    | _ => none
  ok args pre v h hp w := by
    split at h
    · rename_i k o r e
      cases h
      exact entry_of (right_ok k o r e w)
    · cases h
noncomputable def eRRight : Entry Tryz.prog where
  f := 130
  fn l := match l with
    | [.agg ⟨[.int .i64 k, .int .i64 o, .int .i64 r, .int .i64 e]⟩] => some (True, .bool (rightD k o r e))
    | _ => none
  ok args pre v h hp w := by
    split at h
    · rename_i k o r e
      cases h
      exact entry_of (rright_ok k o r e w)
    · cases h
noncomputable def D2 : Cfg Tryz.prog := { D0 with tab := [eFits, eIs, eBit, eOne, eMask, eRGet, eGet, ePut, eCan, eRLeads, eWithin, eRight, eRRight] }
end Go.Proofs.YtkldededdgpmbaaGreat.D
namespace Go.Proofs.YtkldededdgpmbaaGreat.D
set_option linter.unusedSimpArgs false
set_option linter.unusedVariables false
set_option maxRecDepth 100000
open Go.RX
theorem next_vc (k o r e x y : Int) (w : World) (Post : (Int × Int × Int × Int × Unit) × Int × Unit → World → Prop) : (rxFnR D2 (fun _ => []) 100 [.agg ⟨[.int .i64 k, .int .i64 o, .int .i64 r, .int .i64 e]⟩, .int .i64 x, .int .i64 y] w Post) = (
 AlP w { toList := [Value.int IntKind.i64 k, Value.int IntKind.i64 o, Value.int IntKind.i64 r, Value.int IntKind.i64 e] } 68 fun (b : Nat) (w2 : World) =>
  AlP w2 { toList := [Value.int IntKind.i64 0, Value.int IntKind.i64 0, Value.int IntKind.i64 0, Value.int IntKind.i64 0] } 68 fun (b_1 : Nat) (w2 : World) =>
   LdP w2 none (some { block := b, off := 0 }) (El.agg [Sc.int IntKind.i64, Sc.int IntKind.i64, Sc.int IntKind.i64, Sc.int IntKind.i64]) fun (x_1 : Int × Int × Int × Int × Unit) =>
    True ∧
     brP (!rightD x_1.fst x_1.snd.fst x_1.snd.snd.fst x_1.snd.snd.snd.fst)
      (StP w2 (some { block := b_1, off := 0 }) [Value.int IntKind.i64 0, Value.int IntKind.i64 0, Value.int IntKind.i64 0, Value.int IntKind.i64 0] fun (w2 : World) =>
       EnP w2 fun (w1 : World) =>
        LdP w1 none (some { block := b_1, off := 0 }) (El.agg [Sc.int IntKind.i64, Sc.int IntKind.i64, Sc.int IntKind.i64, Sc.int IntKind.i64]) fun (x : Int × Int × Int × Int × Unit) =>
         Post ((x.fst, x.snd.fst, x.snd.snd.fst, x.snd.snd.snd.fst, Unit.unit), 11, Unit.unit) w1)
      (true = true ∧
       LdP w2 none (addP (some { block := b, off := 0 }) 2) (El.one (Sc.int IntKind.i64)) fun (x_2 : Int) =>
        brP (decide (x_2 > 0))
         (StP w2 (some { block := b_1, off := 0 }) [Value.int IntKind.i64 0, Value.int IntKind.i64 0, Value.int IntKind.i64 0, Value.int IntKind.i64 0] fun (w2 : World) =>
          EnP w2 fun (w1 : World) =>
           LdP w1 none (some { block := b_1, off := 0 }) (El.agg [Sc.int IntKind.i64, Sc.int IntKind.i64, Sc.int IntKind.i64, Sc.int IntKind.i64]) fun (x : Int × Int × Int × Int × Unit) =>
            Post ((x.fst, x.snd.fst, x.snd.snd.fst, x.snd.snd.snd.fst, Unit.unit), 9, Unit.unit) w1)
         (true = true ∧
          LdP w2 none (addP (some { block := b, off := 0 }) 0) (El.one (Sc.int IntKind.i64)) fun (x_3 : Int) =>
           True ∧
            brP (!decide (x ∈ leadsL x_3))
             (StP w2 (some { block := b_1, off := 0 }) [Value.int IntKind.i64 0, Value.int IntKind.i64 0, Value.int IntKind.i64 0, Value.int IntKind.i64 0] fun (w2 : World) =>
              EnP w2 fun (w1 : World) =>
               LdP w1 none (some { block := b_1, off := 0 }) (El.agg [Sc.int IntKind.i64, Sc.int IntKind.i64, Sc.int IntKind.i64, Sc.int IntKind.i64]) fun (x : Int × Int × Int × Int × Unit) =>
                Post ((x.fst, x.snd.fst, x.snd.snd.fst, x.snd.snd.snd.fst, Unit.unit), 6, Unit.unit) w1)
             (brP (x == 5)
              (true = true ∧
               LdP w2 none (addP (some { block := b, off := 0 }) 1) (El.one (Sc.int IntKind.i64)) fun (x_4 : Int) =>
                AlP w2 { toList := [Value.int IntKind.i64 0, Value.int IntKind.i64 0, Value.int IntKind.i64 0, Value.int IntKind.i64 0] } 68 fun (b : Nat) (w2 : World) =>
                 StP w2 (some { block := b, off := 0 }) [Value.int IntKind.i64 x, Value.int IntKind.i64 x_4, Value.int IntKind.i64 0, Value.int IntKind.i64 0] fun (w2 : World) =>
                  LdP w2 none (some { block := b, off := 0 }) (El.agg [Sc.int IntKind.i64, Sc.int IntKind.i64, Sc.int IntKind.i64, Sc.int IntKind.i64]) fun (x : Int × Int × Int × Int × Unit) =>
                   True ∧
                    brP (!rightD x.fst x.snd.fst x.snd.snd.fst x.snd.snd.snd.fst)
                     (StP w2 (some { block := b_1, off := 0 }) [Value.int IntKind.i64 0, Value.int IntKind.i64 0, Value.int IntKind.i64 0, Value.int IntKind.i64 0] fun (w2 : World) =>
                      EnP w2 fun (w1 : World) =>
                       LdP w1 none (some { block := b_1, off := 0 }) (El.agg [Sc.int IntKind.i64, Sc.int IntKind.i64, Sc.int IntKind.i64, Sc.int IntKind.i64]) fun (x : Int × Int × Int × Int × Unit) =>
                        Post ((x.fst, x.snd.fst, x.snd.snd.fst, x.snd.snd.snd.fst, Unit.unit), 1, Unit.unit) w1)
                     (LdP w2 none (some { block := b, off := 0 }) (El.agg [Sc.int IntKind.i64, Sc.int IntKind.i64, Sc.int IntKind.i64, Sc.int IntKind.i64]) fun (x : Int × Int × Int × Int × Unit) =>
                      StP w2 (some { block := b_1, off := 0 }) [Value.int IntKind.i64 x.fst, Value.int IntKind.i64 x.snd.fst, Value.int IntKind.i64 x.snd.snd.fst, Value.int IntKind.i64 x.snd.snd.snd.fst] fun (w2 : World) =>
                       EnP w2 fun (w1 : World) =>
                        LdP w1 none (some { block := b_1, off := 0 }) (El.agg [Sc.int IntKind.i64, Sc.int IntKind.i64, Sc.int IntKind.i64, Sc.int IntKind.i64]) fun (x : Int × Int × Int × Int × Unit) =>
                         Post ((x.fst, x.snd.fst, x.snd.snd.fst, x.snd.snd.snd.fst, Unit.unit), 0, Unit.unit) w1))
              (AlP w2 { toList := [Value.int IntKind.i64 0, Value.int IntKind.i64 0, Value.int IntKind.i64 0, Value.int IntKind.i64 0] } 68 fun (b : Nat) (w2 : World) =>
               StP w2 (some { block := b, off := 0 }) [Value.int IntKind.i64 x, Value.int IntKind.i64 y, Value.int IntKind.i64 0, Value.int IntKind.i64 0] fun (w2 : World) =>
                LdP w2 none (some { block := b, off := 0 }) (El.agg [Sc.int IntKind.i64, Sc.int IntKind.i64, Sc.int IntKind.i64, Sc.int IntKind.i64]) fun (x : Int × Int × Int × Int × Unit) =>
                 True ∧
                  brP (!rightD x.fst x.snd.fst x.snd.snd.fst x.snd.snd.snd.fst)
                   (StP w2 (some { block := b_1, off := 0 }) [Value.int IntKind.i64 0, Value.int IntKind.i64 0, Value.int IntKind.i64 0, Value.int IntKind.i64 0] fun (w2 : World) =>
                    EnP w2 fun (w1 : World) =>
                     LdP w1 none (some { block := b_1, off := 0 }) (El.agg [Sc.int IntKind.i64, Sc.int IntKind.i64, Sc.int IntKind.i64, Sc.int IntKind.i64]) fun (x : Int × Int × Int × Int × Unit) =>
                      Post ((x.fst, x.snd.fst, x.snd.snd.fst, x.snd.snd.snd.fst, Unit.unit), 1, Unit.unit) w1)
                   (LdP w2 none (some { block := b, off := 0 }) (El.agg [Sc.int IntKind.i64, Sc.int IntKind.i64, Sc.int IntKind.i64, Sc.int IntKind.i64]) fun (x : Int × Int × Int × Int × Unit) =>
                    StP w2 (some { block := b_1, off := 0 }) [Value.int IntKind.i64 x.fst, Value.int IntKind.i64 x.snd.fst, Value.int IntKind.i64 x.snd.snd.fst, Value.int IntKind.i64 x.snd.snd.snd.fst] fun (w2 : World) =>
                     EnP w2 fun (w1 : World) =>
                      LdP w1 none (some { block := b_1, off := 0 }) (El.agg [Sc.int IntKind.i64, Sc.int IntKind.i64, Sc.int IntKind.i64, Sc.int IntKind.i64]) fun (x : Int × Int × Int × Int × Unit) =>
                       Post ((x.fst, x.snd.fst, x.snd.snd.fst, x.snd.snd.snd.fst, Unit.unit), 0, Unit.unit) w1)))))) := by kernel_rfl
theorem rnext_vc (k o r e x y : Int) (w : World) (Post : (Int × Int × Int × Int × Unit) × Int × Unit → World → Prop) : (rxFnR D2 (fun _ => []) 105 [.agg ⟨[.int .i64 k, .int .i64 o, .int .i64 r, .int .i64 e]⟩, .int .i64 x, .int .i64 y] w Post) = (
 AlP w { toList := [Value.int IntKind.i64 k, Value.int IntKind.i64 o, Value.int IntKind.i64 r, Value.int IntKind.i64 e] } 88 fun (b : Nat) (w2 : World) =>
  AlP w2 { toList := [Value.int IntKind.i64 0, Value.int IntKind.i64 0, Value.int IntKind.i64 0, Value.int IntKind.i64 0] } 88 fun (b_1 : Nat) (w2 : World) =>
   LdP w2 none (some { block := b, off := 0 }) (El.agg [Sc.int IntKind.i64, Sc.int IntKind.i64, Sc.int IntKind.i64, Sc.int IntKind.i64]) fun (x_1 : Int × Int × Int × Int × Unit) =>
    True ∧
     brP (!rightD x_1.fst x_1.snd.fst x_1.snd.snd.fst x_1.snd.snd.snd.fst)
      (StP w2 (some { block := b_1, off := 0 }) [Value.int IntKind.i64 0, Value.int IntKind.i64 0, Value.int IntKind.i64 0, Value.int IntKind.i64 0] fun (w2 : World) =>
       EnP w2 fun (w1 : World) =>
        LdP w1 none (some { block := b_1, off := 0 }) (El.agg [Sc.int IntKind.i64, Sc.int IntKind.i64, Sc.int IntKind.i64, Sc.int IntKind.i64]) fun (x : Int × Int × Int × Int × Unit) =>
         Post ((x.fst, x.snd.fst, x.snd.snd.fst, x.snd.snd.snd.fst, Unit.unit), 11, Unit.unit) w1)
      (true = true ∧
       LdP w2 none (addP (some { block := b, off := 0 }) 2) (El.one (Sc.int IntKind.i64)) fun (x_2 : Int) =>
        brP (decide (x_2 > 0))
         (StP w2 (some { block := b_1, off := 0 }) [Value.int IntKind.i64 0, Value.int IntKind.i64 0, Value.int IntKind.i64 0, Value.int IntKind.i64 0] fun (w2 : World) =>
          EnP w2 fun (w1 : World) =>
           LdP w1 none (some { block := b_1, off := 0 }) (El.agg [Sc.int IntKind.i64, Sc.int IntKind.i64, Sc.int IntKind.i64, Sc.int IntKind.i64]) fun (x : Int × Int × Int × Int × Unit) =>
            Post ((x.fst, x.snd.fst, x.snd.snd.fst, x.snd.snd.snd.fst, Unit.unit), 9, Unit.unit) w1)
         (true = true ∧
          LdP w2 none (addP (some { block := b, off := 0 }) 0) (El.one (Sc.int IntKind.i64)) fun (x_3 : Int) =>
           True ∧
            brP (!rlI x_3 x)
             (StP w2 (some { block := b_1, off := 0 }) [Value.int IntKind.i64 0, Value.int IntKind.i64 0, Value.int IntKind.i64 0, Value.int IntKind.i64 0] fun (w2 : World) =>
              EnP w2 fun (w1 : World) =>
               LdP w1 none (some { block := b_1, off := 0 }) (El.agg [Sc.int IntKind.i64, Sc.int IntKind.i64, Sc.int IntKind.i64, Sc.int IntKind.i64]) fun (x : Int × Int × Int × Int × Unit) =>
                Post ((x.fst, x.snd.fst, x.snd.snd.fst, x.snd.snd.snd.fst, Unit.unit), 6, Unit.unit) w1)
             (AlP w2 { toList := [Value.int IntKind.i64 0, Value.int IntKind.i64 0, Value.int IntKind.i64 0, Value.int IntKind.i64 0] } 88 fun (b_2 : Nat) (w2 : World) =>
              StP w2 (some { block := b_2, off := 0 }) [Value.int IntKind.i64 x, Value.int IntKind.i64 y, Value.int IntKind.i64 0, Value.int IntKind.i64 0] fun (w2 : World) =>
               brP (x == 5)
                (true = true ∧
                 LdP w2 none (addP (some { block := b, off := 0 }) 1) (El.one (Sc.int IntKind.i64)) fun (x : Int) =>
                  true = true ∧
                   StP w2 (addP (some { block := b_2, off := 0 }) 1) [Value.int IntKind.i64 x] fun (w2 : World) =>
                    LdP w2 none (some { block := b_2, off := 0 }) (El.agg [Sc.int IntKind.i64, Sc.int IntKind.i64, Sc.int IntKind.i64, Sc.int IntKind.i64]) fun (x : Int × Int × Int × Int × Unit) =>
                     True ∧
                      brP (!rightD x.fst x.snd.fst x.snd.snd.fst x.snd.snd.snd.fst)
                       (StP w2 (some { block := b_1, off := 0 }) [Value.int IntKind.i64 0, Value.int IntKind.i64 0, Value.int IntKind.i64 0, Value.int IntKind.i64 0] fun (w2 : World) =>
                        EnP w2 fun (w1 : World) =>
                         LdP w1 none (some { block := b_1, off := 0 }) (El.agg [Sc.int IntKind.i64, Sc.int IntKind.i64, Sc.int IntKind.i64, Sc.int IntKind.i64]) fun (x : Int × Int × Int × Int × Unit) =>
                          Post ((x.fst, x.snd.fst, x.snd.snd.fst, x.snd.snd.snd.fst, Unit.unit), 1, Unit.unit) w1)
                       (LdP w2 none (some { block := b_2, off := 0 }) (El.agg [Sc.int IntKind.i64, Sc.int IntKind.i64, Sc.int IntKind.i64, Sc.int IntKind.i64]) fun (x : Int × Int × Int × Int × Unit) =>
                        StP w2 (some { block := b_1, off := 0 }) [Value.int IntKind.i64 x.fst, Value.int IntKind.i64 x.snd.fst, Value.int IntKind.i64 x.snd.snd.fst, Value.int IntKind.i64 x.snd.snd.snd.fst] fun (w2 : World) =>
                         EnP w2 fun (w1 : World) =>
                          LdP w1 none (some { block := b_1, off := 0 }) (El.agg [Sc.int IntKind.i64, Sc.int IntKind.i64, Sc.int IntKind.i64, Sc.int IntKind.i64]) fun (x : Int × Int × Int × Int × Unit) =>
                           Post ((x.fst, x.snd.fst, x.snd.snd.fst, x.snd.snd.snd.fst, Unit.unit), 0, Unit.unit) w1))
                (LdP w2 none (some { block := b_2, off := 0 }) (El.agg [Sc.int IntKind.i64, Sc.int IntKind.i64, Sc.int IntKind.i64, Sc.int IntKind.i64]) fun (x : Int × Int × Int × Int × Unit) =>
                 True ∧
                  brP (!rightD x.fst x.snd.fst x.snd.snd.fst x.snd.snd.snd.fst)
                   (StP w2 (some { block := b_1, off := 0 }) [Value.int IntKind.i64 0, Value.int IntKind.i64 0, Value.int IntKind.i64 0, Value.int IntKind.i64 0] fun (w2 : World) =>
                    EnP w2 fun (w1 : World) =>
                     LdP w1 none (some { block := b_1, off := 0 }) (El.agg [Sc.int IntKind.i64, Sc.int IntKind.i64, Sc.int IntKind.i64, Sc.int IntKind.i64]) fun (x : Int × Int × Int × Int × Unit) =>
                      Post ((x.fst, x.snd.fst, x.snd.snd.fst, x.snd.snd.snd.fst, Unit.unit), 1, Unit.unit) w1)
                   (LdP w2 none (some { block := b_2, off := 0 }) (El.agg [Sc.int IntKind.i64, Sc.int IntKind.i64, Sc.int IntKind.i64, Sc.int IntKind.i64]) fun (x : Int × Int × Int × Int × Unit) =>
                    StP w2 (some { block := b_1, off := 0 }) [Value.int IntKind.i64 x.fst, Value.int IntKind.i64 x.snd.fst, Value.int IntKind.i64 x.snd.snd.fst, Value.int IntKind.i64 x.snd.snd.snd.fst] fun (w2 : World) =>
                     EnP w2 fun (w1 : World) =>
                      LdP w1 none (some { block := b_1, off := 0 }) (El.agg [Sc.int IntKind.i64, Sc.int IntKind.i64, Sc.int IntKind.i64, Sc.int IntKind.i64]) fun (x : Int × Int × Int × Int × Unit) =>
                       Post ((x.fst, x.snd.fst, x.snd.snd.fst, x.snd.snd.snd.fst, Unit.unit), 0, Unit.unit) w1)))))) := by kernel_rfl
/-- What comes of a change of the kind: the error. -/
def nextE (k o r e x y : Int) : Int := if rightD k o r e = false then 11 else if r > 0 then 9 else if x ∈ leadsL k then (if rightD x (if x = 5 then o else y) 0 0 = false then 1 else 0) else 6
def nextK (k o r e x y : Int) : Int := if nextE k o r e x y = 0 then x else 0
def nextO (k o r e x y : Int) : Int := if nextE k o r e x y = 0 then (if x = 5 then o else y) else 0

theorem next_ok (k o r e x y : Int) (w : World) : CallsR Tryz.prog 100 (.tup [(.agg [.int .i64, .int .i64, .int .i64, .int .i64]), .one (.int .i64)]) [.agg ⟨[.int .i64 k, .int .i64 o, .int .i64 r, .int .i64 e]⟩, .int .i64 x, .int .i64 y] w
    (fun v w' => v = ((nextK k o r e x y, nextO k o r e x y, (0 : Int), (0 : Int), ()), nextE k o r e x y, ()) ∧ Ext w w') := by
  refine rxFnR_ok (C := D2) (ann := fun _ => []) (Eq.mpr (next_vc k o r e x y w _) ?_)
  have H := At.start [] w
  repeat' (first
    | exact Go.RX.AtD.all H
    | exact And.intro (by first | rfl | decide +kernel) (Go.RX.AtD.all H)
    | refine And.intro (by first | exact rfl | exact trivial | exact fun _ => rfl | exact fun _ => trivial | exact ⟨rfl, by decide, by decide⟩ | exact ⟨by decide, by decide⟩ | decide +kernel | exact fun _ => by decide | exact fun _ => ⟨rfl, by decide, by decide⟩ | (dsimp only [List.length_cons, List.length_nil]; exact ⟨rfl, by decide, by decide⟩)) ?_
    | refine LdP.atA 0 H rfl rfl ?_
    | refine LdP.atA 1 H rfl rfl ?_
    | refine LdP.atA 2 H rfl rfl ?_
    | refine LdP.at 0 H rfl rfl ?_
    | refine LdP.at 1 H rfl rfl ?_
    | refine LdP.at 2 H rfl rfl ?_
    | refine AlP.go H fun b w1 H => ?_
    | refine StP.all 0 H rfl rfl rfl fun w1 H => ?_
    | refine StP.all 1 H rfl rfl rfl fun w1 H => ?_
    | refine StP.all 2 H rfl rfl rfl fun w1 H => ?_
    | refine StP.oneA 0 H rfl rfl rfl fun w1 H => ?_
    | refine StP.oneA 1 H rfl rfl rfl fun w1 H => ?_
    | refine StP.oneA 2 H rfl rfl rfl fun w1 H => ?_
    | refine StP.one 0 H rfl rfl rfl fun w1 H => ?_
    | refine StP.one 1 H rfl rfl rfl fun w1 H => ?_
    | refine StP.one 2 H rfl rfl rfl fun w1 H => ?_
    | with_reducible refine EnP.go H fun w1 H => ?_
    | refine shr_go ?_
    | refine brP_pos (by assumption) ?_
    | refine brP_neg (by assumption) ?_
    | refine brP_intro (fun c => ?_) (fun c => ?_))
  all_goals
    refine And.intro ?_ H.all
    simp only [Bool.or_eq_true, Bool.or_eq_false_iff, Bool.and_eq_true, Bool.and_eq_false_iff, beq_iff_eq, beq_eq_false_iff_ne, bne_iff_ne, bne_eq_false_iff_eq, decide_eq_true_eq, decide_eq_false_iff_not, Bool.false_eq_true, Bool.true_eq_false, Bool.not_eq_true', Bool.not_eq_false', and_true, true_and, and_false, false_and, or_true, true_or, or_false, false_or, ne_eq, not_true_eq_false, not_false_eq_true, false_iff, iff_false, true_iff, iff_true] at *
    first
      | (simp [nextK, nextO, nextE, *]; done)
      | (subst_vars; simp [nextK, nextO, nextE, *])
theorem rnext_ok (k o r e x y : Int) (w : World) : CallsR Tryz.prog 105 (.tup [(.agg [.int .i64, .int .i64, .int .i64, .int .i64]), .one (.int .i64)]) [.agg ⟨[.int .i64 k, .int .i64 o, .int .i64 r, .int .i64 e]⟩, .int .i64 x, .int .i64 y] w
    (fun v w' => v = ((nextK k o r e x y, nextO k o r e x y, (0 : Int), (0 : Int), ()), nextE k o r e x y, ()) ∧ Ext w w') := by
  refine rxFnR_ok (C := D2) (ann := fun _ => []) (Eq.mpr (rnext_vc k o r e x y w _) ?_)
  have H := At.start [] w
  repeat' (first
    | exact Go.RX.AtD.all H
    | exact And.intro (by first | rfl | decide +kernel) (Go.RX.AtD.all H)
    | refine And.intro (by first | exact rfl | exact trivial | exact fun _ => rfl | exact fun _ => trivial | exact ⟨rfl, by decide, by decide⟩ | exact ⟨by decide, by decide⟩ | decide +kernel | exact fun _ => by decide | exact fun _ => ⟨rfl, by decide, by decide⟩ | (dsimp only [List.length_cons, List.length_nil]; exact ⟨rfl, by decide, by decide⟩)) ?_
    | refine LdP.atA 0 H rfl rfl ?_
    | refine LdP.atA 1 H rfl rfl ?_
    | refine LdP.atA 2 H rfl rfl ?_
    | refine LdP.at 0 H rfl rfl ?_
    | refine LdP.at 1 H rfl rfl ?_
    | refine LdP.at 2 H rfl rfl ?_
    | refine AlP.go H fun b w1 H => ?_
    | refine StP.all 0 H rfl rfl rfl fun w1 H => ?_
    | refine StP.all 1 H rfl rfl rfl fun w1 H => ?_
    | refine StP.all 2 H rfl rfl rfl fun w1 H => ?_
    | refine StP.oneA 0 H rfl rfl rfl fun w1 H => ?_
    | refine StP.oneA 1 H rfl rfl rfl fun w1 H => ?_
    | refine StP.oneA 2 H rfl rfl rfl fun w1 H => ?_
    | refine StP.one 0 H rfl rfl rfl fun w1 H => ?_
    | refine StP.one 1 H rfl rfl rfl fun w1 H => ?_
    | refine StP.one 2 H rfl rfl rfl fun w1 H => ?_
    | with_reducible refine EnP.go H fun w1 H => ?_
    | refine shr_go ?_
    | refine brP_pos (by assumption) ?_
    | refine brP_neg (by assumption) ?_
    | refine brP_intro (fun c => ?_) (fun c => ?_))
  all_goals
    refine And.intro ?_ H.all
    simp only [Bool.or_eq_true, Bool.or_eq_false_iff, Bool.and_eq_true, Bool.and_eq_false_iff, beq_iff_eq, beq_eq_false_iff_ne, bne_iff_ne, bne_eq_false_iff_eq, decide_eq_true_eq, decide_eq_false_iff_not, Bool.false_eq_true, Bool.true_eq_false, Bool.not_eq_true', Bool.not_eq_false', and_true, true_and, and_false, false_and, or_true, true_or, or_false, false_or, ne_eq, not_true_eq_false, not_false_eq_true, false_iff, iff_false, true_iff, iff_true] at *
    have hk : ∀ c, rlI k x = c → rightD k o r e = true → decide (x ∈ leadsL k) = c := fun c h hr => by
      have hp : rightP k o r e := of_decide_eq_true hr
      rw [← h]; exact leads_rl x (by unfold rightP at hp; omega)
    first
      | (simp [nextK, nextO, nextE, *]; done)
      | (subst_vars; simp [nextK, nextO, nextE, *]; done)
      | (have hm := hk _ (by assumption) (by assumption)
         simp only [Bool.or_eq_true, Bool.or_eq_false_iff, Bool.and_eq_true, Bool.and_eq_false_iff, beq_iff_eq, beq_eq_false_iff_ne, bne_iff_ne, bne_eq_false_iff_eq, decide_eq_true_eq, decide_eq_false_iff_not, Bool.false_eq_true, Bool.true_eq_false, Bool.not_eq_true', Bool.not_eq_false', and_true, true_and, and_false, false_and, or_true, true_or, or_false, false_or, ne_eq, not_true_eq_false, not_false_eq_true, false_iff, iff_false, true_iff, iff_true] at hm
         first
          | (simp [nextK, nextO, nextE, *]; done)
          | (subst_vars; simp [nextK, nextO, nextE, *]))
end Go.Proofs.YtkldededdgpmbaaGreat.D
namespace Go.Proofs.YtkldededdgpmbaaGreat.D
set_option linter.unusedSimpArgs false
set_option linter.unusedVariables false
set_option maxRecDepth 100000
open Go.RX
/-! ### The refs -/
def refE (k o r e x : Int) : Int := if rightD k o r e = false then 11 else if k = 2 ∨ k = 3 ∨ k = 4 then (if r + x < 0 ∨ r + x > 65535 then 2 else 0) else 6
def refV (k o r e x : Int) : Int × Int × Int × Int × Unit := if refE k o r e x = 0 then (k, o, r + x, e, ()) else (0, 0, 0, 0, ())
/-! ### Words -/
def partsL (k o r e : Int) : List (BitVec 64 × Int) := [(B k, 4), (B o, 8), (B r, 16), (B 0, 4), (B e, 32)]
def packW (k o r e : Int) : Int := if rightD k o r e = true then k + 16 * o + 4096 * r + 4294967296 * e else 0
def packE (k o r e : Int) : Int := if rightD k o r e = true then 0 else 11
theorem B_nat {x : Int} (h : 0 ≤ x) (h' : x < 18446744073709551616) : (B x).toNat = x.toNat := by
  have := U_B' h h'
  unfold U at this
  omega
theorem conv_u64 (x : Int) : convI .u64 x = U (B x) := wrap_B x
theorem pack_num {k o r e : Int} (h : rightP k o r e) : U (packB 0#64 0 (partsL k o r e)) = k + 16 * o + 4096 * r + 4294967296 * e := by
  unfold rightP at h
  have nk := B_nat (x := k) (by omega) (by omega)
  have no := B_nat (x := o) (by omega) (by omega)
  have nr := B_nat (x := r) (by omega) (by omega)
  have n0 := B_nat (x := 0) (by omega) (by omega)
  have ne := B_nat (x := e) (by omega) (by omega)
  simp only [partsL, packB]
  rw [if_pos (by decide), if_pos (by decide), if_pos (by decide), if_pos (by decide), if_pos (by decide)]
  have e1 := put_step (w := 0#64) (lo := 0) (sz := 4) (by decide) (rfl : (0#64).toNat = 0) (by decide) nk (by show k.toNat < 16; omega)
  have e2 := put_step (lo := 0 + 4) (sz := 8) (by decide) e1 (by show 1 * k.toNat + 0 < 16; omega) no (by show o.toNat < 256; omega)
  have e3 := put_step (lo := 0 + 4 + 8) (sz := 16) (by decide) e2 (by show 16 * o.toNat + (1 * k.toNat + 0) < 4096; omega) nr (by show r.toNat < 65536; omega)
  have e4 := put_step (lo := 0 + 4 + 8 + 16) (sz := 4) (by decide) e3 (by show 4096 * r.toNat + (16 * o.toNat + (1 * k.toNat + 0)) < 268435456; omega) n0 (by decide)
  have e5 := put_step (lo := 0 + 4 + 8 + 16 + 4) (sz := 32) (by decide) e4 (by show 268435456 * (0 : Int).toNat + (4096 * r.toNat + (16 * o.toNat + (1 * k.toNat + 0))) < 4294967296; omega) ne (by show e.toNat < 4294967296; omega)
  rw [U_eq e5]
  show ((4294967296 * e.toNat + (268435456 * (0 : Int).toNat + (4096 * r.toNat + (16 * o.toNat + (1 * k.toNat + 0)))) : Nat) : Int) = _
  omega
end Go.Proofs.YtkldededdgpmbaaGreat.D
namespace Go.Proofs.YtkldededdgpmbaaGreat.D
set_option linter.unusedSimpArgs false
set_option linter.unusedVariables false
set_option maxRecDepth 100000
open Go.RX
/-! ### A word's descriptor -/
def fK (N : Nat) : Int := ((N % 16 : Nat) : Int)
def fO (N : Nat) : Int := ((N / 16 % 256 : Nat) : Int)
def fR (N : Nat) : Int := ((N / 4096 % 65536 : Nat) : Int)
def fS (N : Nat) : Int := ((N / 268435456 % 16 : Nat) : Int)
def fE (N : Nat) : Int := ((N / 4294967296 % 4294967296 : Nat) : Int)
def parD (N : Nat) : Bool := decide (fS N = 0) && rightD (fK N) (fO N) (fR N) (fE N)
def parV (N : Nat) : Int × Int × Int × Int × Unit := if parD N = true then (fK N, fO N, fR N, fE N, ()) else (0, 0, 0, 0, ())
theorem split_word5 (v : BitVec 64) : (splitB v 0 [4, 8, 16, 4, 32]).getD [] = [getB v 0 4, getB v 4 8, getB v 12 16, getB v 28 4, getB v 32 32] := by
  simp only [splitB]
  rw [if_pos (by decide), if_pos (by decide), if_pos (by decide), if_pos (by decide), if_pos (by decide)]
  rfl
theorem getK (v : BitVec 64) : U (getB v 0 4) = fK v.toNat := by rw [U_eq (get_num 1 16 (by decide) rfl rfl), Nat.div_one]; rfl
theorem getO (v : BitVec 64) : U (getB v 4 8) = fO v.toNat := U_eq (get_num 16 256 (by decide) rfl rfl)
theorem getR (v : BitVec 64) : U (getB v 12 16) = fR v.toNat := U_eq (get_num 4096 65536 (by decide) rfl (by decide))
theorem getS (v : BitVec 64) : U (getB v 28 4) = fS v.toNat := U_eq (get_num 268435456 16 (by decide) (by decide) rfl)
theorem getE (v : BitVec 64) : U (getB v 32 32) = fE v.toNat := U_eq (get_num 4294967296 4294967296 (by decide) (by decide) (by decide))
theorem cI64 {x : Int} (h : 0 ≤ x) (h' : x < 4294967296) : convI .i64 x = x := wrap_i64_id (by omega) (by omega)
theorem cK (N : Nat) : convI .i64 (fK N) = fK N := cI64 (by unfold fK; omega) (by unfold fK; omega)
theorem cO (N : Nat) : convI .i64 (fO N) = fO N := cI64 (by unfold fO; omega) (by unfold fO; omega)
theorem cR (N : Nat) : convI .i64 (fR N) = fR N := cI64 (by unfold fR; omega) (by unfold fR; omega)
theorem cE (N : Nat) : convI .i64 (fE N) = fE N := cI64 (by unfold fE; omega) (by unfold fE; omega)
theorem split5 {w : World} {b c : Nat} {rest : List Value} (v : BitVec 64) (h : Blk w b (flat eI [4, 8, 16, 4, 32] ++ rest)) : CallsR Tryz.prog 119 (.el (.one .slice)) [.int .u64 (U v), .slice (some ⟨b, 0, none⟩) 5 c] w
    (fun r w' => Own w w' eU r [fK v.toNat, fO v.toNat, fR v.toNat, fS v.toNat, fE v.toNat] ∧ Ext w w') := by
  refine (split_ok (v := v) (p := some ⟨b, 0, none⟩) (n := 5) (c := c) (xs := [4, 8, 16, 4, 32]) (Sl.of_blk h rfl) rfl (by decide)).mono fun r w' ⟨ho, hx⟩ => ⟨?_, hx⟩
  rw [split_word5] at ho
  have e : embU [getB v 0 4, getB v 4 8, getB v 12 16, getB v 28 4, getB v 32 32] = [fK v.toNat, fO v.toNat, fR v.toNat, fS v.toNat, fE v.toNat] := by
    show [U (getB v 0 4), U (getB v 4 8), U (getB v 12 16), U (getB v 28 4), U (getB v 32 32)] = _
    rw [getK, getO, getR, getS, getE]
  rw [e] at ho
  exact ho
/-! ### Names -/
def nameS (a : Int) : ByteArray := if a = 0 then ⟨#[102, 114, 101, 101]⟩ else if a = 1 then ⟨#[99, 97, 99, 104, 101, 100]⟩ else if a = 2 then ⟨#[109, 111, 110, 105, 116, 111, 114]⟩ else if a = 3 then ⟨#[116, 97, 98, 108, 101]⟩ else if a = 4 then ⟨#[103, 117, 101, 115, 116]⟩ else if a = 5 then ⟨#[114, 101, 116, 105, 114, 101, 100]⟩ else ⟨#[]⟩
end Go.Proofs.YtkldededdgpmbaaGreat.D
namespace Go.Proofs.YtkldededdgpmbaaGreat.D
set_option linter.unusedSimpArgs false
set_option linter.unusedVariables false
set_option maxRecDepth 100000
open Go.RX
noncomputable def eNext : Entry Tryz.prog where
  f := 100
  fn l := match l with
    | [.agg ⟨[.int .i64 k, .int .i64 o, .int .i64 r, .int .i64 e]⟩, .int .i64 x, .int .i64 y] => some (True, .tuple ⟨[.agg ⟨[.int .i64 (nextK k o r e x y), .int .i64 (nextO k o r e x y), .int .i64 0, .int .i64 0]⟩, .int .i64 (nextE k o r e x y)]⟩)
    | _ => none
  ok args pre v h hp w := by
    split at h
    · rename_i k o r e x y
      cases h
      exact entry_of (next_ok k o r e x y w)
    · cases h
noncomputable def eRNext : Entry Tryz.prog where
  f := 105
  fn l := match l with
    | [.agg ⟨[.int .i64 k, .int .i64 o, .int .i64 r, .int .i64 e]⟩, .int .i64 x, .int .i64 y] => some (True, .tuple ⟨[.agg ⟨[.int .i64 (nextK k o r e x y), .int .i64 (nextO k o r e x y), .int .i64 0, .int .i64 0]⟩, .int .i64 (nextE k o r e x y)]⟩)
    | _ => none
  ok args pre v h hp w := by
    split at h
    · rename_i k o r e x y
      cases h
      exact entry_of (rnext_ok k o r e x y w)
    · cases h
noncomputable def D3 : Cfg Tryz.prog := { D0 with share := false, tab := [eFits, eIs, eBit, eOne, eMask, eRGet, eGet, ePut, eCan, eRLeads, eWithin, eRight, eRRight, eNext, eRNext] }
end Go.Proofs.YtkldededdgpmbaaGreat.D
namespace Go.Proofs.YtkldededdgpmbaaGreat.D
set_option linter.unusedSimpArgs false
set_option linter.unusedVariables false
set_option maxRecDepth 100000
open Go.RX
noncomputable def E0 : Cfg Tryz.prog := { D3 with sh := [(96, .el (.one (.clo 126 2))), (64, .el (.one (.clo 126 2)))], quiet := [97, 32] }
noncomputable def E1 : Cfg Tryz.prog := { E0 with cl := [(162, .clo 97 1)] }
abbrev cloS : Sh := .el (.one (.clo 126 2))
theorem len_vc (p : Option Addr) (w : World) (Post : Int → World → Prop) : (rxFn E0 (fun _ => []) 32 [.pointer p] w Post) = (
 brP p.isNone (EnP w fun (w1 : World) => Post 0 w1) (p.isSome = true ∧ p.isSome = true ∧ LdP w none (addP p 0) (El.one Sc.slice) fun (x : Option Addr × Nat × Nat) => EnP w fun (w1 : World) => Post (↑x.snd.fst : Int) w1)) := by kernel_rfl
theorem of1_vc (k o r e : Int) (c : Option Addr) (w : World) (Post : Bool → World → Prop) : (rxFn E0 (fun _ => []) 97 [.agg ⟨[.int .i64 k, .int .i64 o, .int .i64 r, .int .i64 e]⟩, .pointer c] w Post) = (
 AlP w { toList := [Value.int IntKind.i64 k, Value.int IntKind.i64 o, Value.int IntKind.i64 r, Value.int IntKind.i64 e] } 68 fun (b : Nat) (w2 : World) =>
  true = true ∧ LdP w2 none (addP (some { block := b, off := 0 }) 0) (El.one (Sc.int IntKind.i64)) fun (x : Int) => LdP w2 none c (El.one (Sc.int IntKind.i64)) fun (x_1 : Int) => EnP w2 fun (w1 : World) => Post (x == x_1) w1) := by kernel_rfl
theorem of_vc (p : Option Addr) (k : Int) (w : World) (Post : Option Addr × Option Addr × Unit → World → Prop) : (rxFn E0 (fun _ => []) 64 [.pointer p, .int .i64 k] w Post) = (
 AlP w { toList := [Value.int IntKind.i64 k] } 3 fun (b : Nat) (w2 : World) =>
  CaP Tryz.prog 96 (Sh.el (El.one (Sc.clo 126 2))) [Value.pointer p, Value.func (Fn.func 97) { toList := [] } { toList := [Value.pointer (some { block := b, off := 0 })] }] w2 fun (x : Option Addr × Option Addr × Unit) (w2 : World) =>
   EnP w2 fun (w1 : World) => Post (x.fst, x.snd.fst, Unit.unit) w1) := by kernel_rfl
theorem such_vc (p c : Option Addr) (w : World) (Post : Option Addr × Option Addr × Unit → World → Prop) : (rxFn E0 (fun _ => []) 96 [.pointer p, .func (.func 97) #[] #[.pointer c]] w Post) = (
 AlP w { toList := [Value.pointer p] } 32 fun (b : Nat) (w2 : World) =>
  AlP w2 { toList := [Value.func (Fn.func 97) { toList := [] } { toList := [Value.pointer c] }] } 162 fun (b_1 : Nat) (w2 : World) => EnP w2 fun (w1 : World) => Post (some { block := b, off := 0 }, some { block := b_1, off := 0 }, Unit.unit) w1) := by kernel_rfl
def such1_vc_ann : Nat → Slots := (fun | 2 => [(13, Go.RX.El.one (Go.RX.Sc.int Go.IntKind.i64))] | _ => [])
theorem such1_vc (y : Nat) (p c : Option Addr) (w : World) (Post : Unit → World → Prop) : (rxFn E1 such1_vc_ann 126 [.func (.yield y) #[] #[], .pointer p, .pointer c] w Post) = (
 LdP w none p (El.one Sc.ptr) fun (x : Option Addr) =>
  brP x.isNone (EnP w fun (w1 : World) => Post Unit.unit w1)
   (LdP w none p (El.one Sc.ptr) fun (x : Option Addr) =>
    x.isSome = true ∧
     x.isSome = true ∧
      LdP w none (addP x 0) (El.one Sc.slice) fun (x : Option Addr × Nat × Nat) =>
       ∃ (I : Nat → Int × Unit → World → Prop),
        (∃ (n : Nat), ∀ (w1 : World), Ext w w1 → I n (0, Unit.unit) w1) ∧
         ∀ (n : Nat) (s : Int × Unit) (w1 : World),
          I n s w1 →
           brP (decide (s.fst < (↑x.snd.fst : Int)))
            ((x.fst.isSome = true ∧ 0 ≤ s.fst ∧ s.fst < (↑x.snd.fst : Int)) ∧
             LdP w1 none (addP x.fst (Int.toNat s.fst * 4)) (El.agg [Sc.int IntKind.i64, Sc.int IntKind.i64, Sc.int IntKind.i64, Sc.int IntKind.i64]) fun (x : Int × Int × Int × Int × Unit) =>
              AlP w1 { toList := [Value.int IntKind.i64 0, Value.int IntKind.i64 0, Value.int IntKind.i64 0, Value.int IntKind.i64 0] } 68 fun (b : Nat) (w2 : World) =>
               StP w2 (some { block := b, off := 0 }) [Value.int IntKind.i64 x.fst, Value.int IntKind.i64 x.snd.fst, Value.int IntKind.i64 x.snd.snd.fst, Value.int IntKind.i64 x.snd.snd.snd.fst] fun (w2 : World) =>
                LdP w2 none c (El.one (Sc.clo 97 1)) fun (x : Option Addr × Unit) =>
                 LdP w2 none (some { block := b, off := 0 }) (El.agg [Sc.int IntKind.i64, Sc.int IntKind.i64, Sc.int IntKind.i64, Sc.int IntKind.i64]) fun (x_1 : Int × Int × Int × Int × Unit) =>
                  ∃ (x_2 : Bool),
                   QCalls Tryz.prog 97 [Value.agg { toList := [Value.int IntKind.i64 x_1.fst, Value.int IntKind.i64 x_1.snd.fst, Value.int IntKind.i64 x_1.snd.snd.fst, Value.int IntKind.i64 x_1.snd.snd.snd.fst] }, Value.pointer x.fst] w2
                     (Value.bool x_2) ∧
                    brP x_2
                     (∀ (w1 : World),
                      Ext w2 w1 →
                       YieldC Tryz.prog y [Value.int IntKind.i64 s.fst] w1 fun (b : Bool) (w2 : World) =>
                        brP (!b) (EnP w2 fun (w1 : World) => Post Unit.unit w1) (∀ (w3 : World), Ext w2 w3 → ∃ (n' : Nat), n' < n ∧ I n' (addI IntKind.i64 s.fst 1, Unit.unit) w3))
                     (∀ (w3 : World), Ext w2 w3 → ∃ (n' : Nat), n' < n ∧ I n' (addI IntKind.i64 s.fst 1, Unit.unit) w3))
            (EnP w1 fun (w1 : World) => Post Unit.unit w1))) := by kernel_rfl
theorem turn1_vc (k o r e : Int) (c d : Option Addr) (w : World) (Post : (Int × Int × Int × Int × Unit) × Int × Unit → World → Prop) : (rxFnR E0 (fun _ => []) 99 [.agg ⟨[.int .i64 k, .int .i64 o, .int .i64 r, .int .i64 e]⟩, .pointer c, .pointer d] w Post) = (
 AlP w { toList := [Value.int IntKind.i64 k, Value.int IntKind.i64 o, Value.int IntKind.i64 r, Value.int IntKind.i64 e] } 68 fun (b : Nat) (w2 : World) =>
  AlP w2 { toList := [Value.int IntKind.i64 0, Value.int IntKind.i64 0, Value.int IntKind.i64 0, Value.int IntKind.i64 0] } 68 fun (b_1 : Nat) (w2 : World) =>
   LdP w2 none (some { block := b, off := 0 }) (El.agg [Sc.int IntKind.i64, Sc.int IntKind.i64, Sc.int IntKind.i64, Sc.int IntKind.i64]) fun (x : Int × Int × Int × Int × Unit) =>
    LdP w2 none c (El.one (Sc.int IntKind.i64)) fun (x_1 : Int) =>
     LdP w2 none d (El.one (Sc.int IntKind.i64)) fun (x_2 : Int) =>
      True ∧
       StP w2 (some { block := b_1, off := 0 })
        [Value.int IntKind.i64 (nextK x.fst x.snd.fst x.snd.snd.fst x.snd.snd.snd.fst x_1 x_2), Value.int IntKind.i64 (nextO x.fst x.snd.fst x.snd.snd.fst x.snd.snd.snd.fst x_1 x_2), Value.int IntKind.i64 0, Value.int IntKind.i64 0]
        fun (w2 : World) =>
        EnP w2 fun (w1 : World) =>
         LdP w1 none (some { block := b_1, off := 0 }) (El.agg [Sc.int IntKind.i64, Sc.int IntKind.i64, Sc.int IntKind.i64, Sc.int IntKind.i64]) fun (x_3 : Int × Int × Int × Int × Unit) =>
          Post ((x_3.fst, x_3.snd.fst, x_3.snd.snd.fst, x_3.snd.snd.snd.fst, Unit.unit), nextE x.fst x.snd.fst x.snd.snd.fst x.snd.snd.snd.fst x_1 x_2, Unit.unit) w1) := by kernel_rfl
theorem change_vc (p : Option Addr) (f : Int) (c d : Option Addr) (w : World) (Post : Int → World → Prop) : (rxFn E0 (fun _ => []) 98 [.pointer p, .int .i64 f, .func (.func 99) #[] #[.pointer c, .pointer d]] w Post) = (
 ∃ (x : Int),
  QCalls Tryz.prog 32 [Value.pointer p] w (Value.int IntKind.i64 x) ∧
   brP (x == 0) (EnP w fun (w1 : World) => Post 10 w1)
    (((!decide (f < 0)) = true → p.isSome = true) ∧
     ((!decide (f < 0)) = true → p.isSome = true) ∧
      LdP w (some !decide (f < 0)) (addP p 0) (El.one Sc.slice) fun (x : Option Addr × Nat × Nat) =>
       brP (decide (f < 0) || decide (f ≥ (↑x.snd.fst : Int))) (EnP w fun (w1 : World) => Post 2 w1)
        (p.isSome = true ∧
         p.isSome = true ∧
          LdP w none (addP p 0) (El.one Sc.slice) fun (x : Option Addr × Nat × Nat) =>
           (x.fst.isSome = true ∧ 0 ≤ f ∧ f < (↑x.snd.fst : Int)) ∧
            LdP w none (addP x.fst (f.toNat * 4)) (El.agg [Sc.int IntKind.i64, Sc.int IntKind.i64, Sc.int IntKind.i64, Sc.int IntKind.i64]) fun (x : Int × Int × Int × Int × Unit) =>
             CaP Tryz.prog 99 (Sh.tup [El.agg [Sc.int IntKind.i64, Sc.int IntKind.i64, Sc.int IntKind.i64, Sc.int IntKind.i64], El.one (Sc.int IntKind.i64)])
              [Value.agg { toList := [Value.int IntKind.i64 x.fst, Value.int IntKind.i64 x.snd.fst, Value.int IntKind.i64 x.snd.snd.fst, Value.int IntKind.i64 x.snd.snd.snd.fst] }, Value.pointer c, Value.pointer d] w
              fun (x : (Int × Int × Int × Int × Unit) × Int × Unit) (w2 : World) =>
              AlP w2 { toList := [Value.int IntKind.i64 0, Value.int IntKind.i64 0, Value.int IntKind.i64 0, Value.int IntKind.i64 0] } 68 fun (b : Nat) (w2 : World) =>
               StP w2 (some { block := b, off := 0 }) [Value.int IntKind.i64 x.fst.fst, Value.int IntKind.i64 x.fst.snd.fst, Value.int IntKind.i64 x.fst.snd.snd.fst, Value.int IntKind.i64 x.fst.snd.snd.snd.fst] fun (w2 : World) =>
                brP (x.snd.fst == 0)
                 (p.isSome = true ∧
                  p.isSome = true ∧
                   LdP w2 none (addP p 0) (El.one Sc.slice) fun (x_1 : Option Addr × Nat × Nat) =>
                    LdP w2 none (some { block := b, off := 0 }) (El.agg [Sc.int IntKind.i64, Sc.int IntKind.i64, Sc.int IntKind.i64, Sc.int IntKind.i64]) fun (x_2 : Int × Int × Int × Int × Unit) =>
                     (x_1.fst.isSome = true ∧ 0 ≤ f ∧ f < (↑x_1.snd.fst : Int)) ∧
                      StP w2 (addP x_1.fst (f.toNat * 4)) [Value.int IntKind.i64 x_2.fst, Value.int IntKind.i64 x_2.snd.fst, Value.int IntKind.i64 x_2.snd.snd.fst, Value.int IntKind.i64 x_2.snd.snd.snd.fst] fun (w2 : World) =>
                       EnP w2 fun (w1 : World) => Post x.snd.fst w1)
                 (EnP w2 fun (w1 : World) => Post x.snd.fst w1)))) := by kernel_rfl
theorem turn_vc (p : Option Addr) (f k o : Int) (w : World) (Post : Int → World → Prop) : (rxFn E0 (fun _ => []) 65 [.pointer p, .int .i64 f, .int .i64 k, .int .i64 o] w Post) = (
 AlP w { toList := [Value.int IntKind.i64 k] } 3 fun (b : Nat) (w2 : World) =>
  AlP w2 { toList := [Value.int IntKind.i64 o] } 3 fun (b_1 : Nat) (w2 : World) =>
   CaP Tryz.prog 98 (Sh.el (El.one (Sc.int IntKind.i64)))
    [Value.pointer p, Value.int IntKind.i64 f, Value.func (Fn.func 99) { toList := [] } { toList := [Value.pointer (some { block := b, off := 0 }), Value.pointer (some { block := b_1, off := 0 })] }] w2 fun (x : Int) (w2 : World) =>
    EnP w2 fun (w1 : World) => Post x w1) := by kernel_rfl
theorem pof_vc (p : Option Addr) (f : Int) (w : World) (Post : (Int × Int × Int × Int × Unit) × Bool × Unit → World → Prop) : (rxFnR E0 (fun _ => []) 33 [.pointer p, .int .i64 f] w Post) = (
 AlP w { toList := [Value.int IntKind.i64 0, Value.int IntKind.i64 0, Value.int IntKind.i64 0, Value.int IntKind.i64 0] } 68 fun (b : Nat) (w2 : World) =>
  ∃ (x : Int),
   ((!decide (f < 0)) = true → QCalls Tryz.prog 32 [Value.pointer p] w2 (Value.int IntKind.i64 x)) ∧
    brP (decide (f < 0) || decide (f ≥ x))
     (StP w2 (some { block := b, off := 0 }) [Value.int IntKind.i64 0, Value.int IntKind.i64 0, Value.int IntKind.i64 0, Value.int IntKind.i64 0] fun (w2 : World) =>
      EnP w2 fun (w1 : World) =>
       LdP w1 none (some { block := b, off := 0 }) (El.agg [Sc.int IntKind.i64, Sc.int IntKind.i64, Sc.int IntKind.i64, Sc.int IntKind.i64]) fun (x : Int × Int × Int × Int × Unit) =>
        Post ((x.fst, x.snd.fst, x.snd.snd.fst, x.snd.snd.snd.fst, Unit.unit), false, Unit.unit) w1)
     (p.isSome = true ∧
      p.isSome = true ∧
       LdP w2 none (addP p 0) (El.one Sc.slice) fun (x : Option Addr × Nat × Nat) =>
        (x.fst.isSome = true ∧ 0 ≤ f ∧ f < (↑x.snd.fst : Int)) ∧
         LdP w2 none (addP x.fst (f.toNat * 4)) (El.agg [Sc.int IntKind.i64, Sc.int IntKind.i64, Sc.int IntKind.i64, Sc.int IntKind.i64]) fun (x : Int × Int × Int × Int × Unit) =>
          StP w2 (some { block := b, off := 0 }) [Value.int IntKind.i64 x.fst, Value.int IntKind.i64 x.snd.fst, Value.int IntKind.i64 x.snd.snd.fst, Value.int IntKind.i64 x.snd.snd.snd.fst] fun (w2 : World) =>
           EnP w2 fun (w1 : World) =>
            LdP w1 none (some { block := b, off := 0 }) (El.agg [Sc.int IntKind.i64, Sc.int IntKind.i64, Sc.int IntKind.i64, Sc.int IntKind.i64]) fun (x : Int × Int × Int × Int × Unit) =>
             Post ((x.fst, x.snd.fst, x.snd.snd.fst, x.snd.snd.snd.fst, Unit.unit), true, Unit.unit) w1)) := by kernel_rfl
theorem pnew_vc (n : Int) (w : World) (Post : Option Addr × Int × Unit → World → Prop) : (rxFn E0 (fun _ => []) 35 [.int .i64 n] w Post) = (
 brP (decide (n < 1) || decide (n > 4096)) (EnP w fun (w1 : World) => Post (none, 1, Unit.unit) w1)
  (MkP w 32 4 n n { toList := [Value.int IntKind.i64 0, Value.int IntKind.i64 0, Value.int IntKind.i64 0, Value.int IntKind.i64 0] } 68 fun (b : Nat) (w2 : World) =>
   AlP w2 { toList := [Value.slice (some { block := b, off := 0 }) n.toNat n.toNat] } 129 fun (b : Nat) (w2 : World) => EnP w2 fun (w1 : World) => Post (some { block := b, off := 0 }, 0, Unit.unit) w1)) := by kernel_rfl
theorem copy_vc (p : Option Addr) (w : World) (Post : Option Addr → World → Prop) : (rxFn E0 (fun _ => []) 29 [.pointer p] w Post) = (
 ∃ (x : Int),
  QCalls Tryz.prog 32 [Value.pointer p] w (Value.int IntKind.i64 x) ∧
   brP (x == 0) (EnP w fun (w1 : World) => Post none w1)
    (p.isSome = true ∧
     p.isSome = true ∧
      LdP w none (addP p 0) (El.one Sc.slice) fun (x : Option Addr × Nat × Nat) =>
       ∀ (w1 : World),
        Ext w w1 →
         apR w1 68 4 32 { toList := [Value.int IntKind.i64 0, Value.int IntKind.i64 0, Value.int IntKind.i64 0, Value.int IntKind.i64 0] } (none, 0, 0) (x.fst, x.snd.fst, x.snd.snd) fun (r : Option Addr × Nat × Nat) (w2 : World) =>
          AlP w2 { toList := [Value.slice r.fst r.snd.fst r.snd.snd] } 129 fun (b : Nat) (w2 : World) => EnP w2 fun (w1 : World) => Post (some { block := b, off := 0 }) w1)) := by kernel_rfl
def count_vc_ann : Nat → Slots := (fun | 3 => [(9, .one (.int .i64))] | _ => [])
theorem count_vc (p : Option Addr) (k : Int) (w : World) (Post : Int → World → Prop) : (rxFnR E0 count_vc_ann 26 [.pointer p, .int .i64 k] w Post) = (
 AlP w { toList := [Value.int IntKind.i64 0] } 3 fun (b : Nat) (w2 : World) =>
  StP w2 (some { block := b, off := 0 }) [Value.int IntKind.i64 0] fun (w2 : World) =>
   CaP Tryz.prog 64 (Sh.el (El.one (Sc.clo 126 2))) [Value.pointer p, Value.int IntKind.i64 k] w2 fun (x : Option Addr × Option Addr × Unit) (w2 : World) =>
    RnP Tryz.prog 126 (fun (y : Nat) => [Value.func (Fn.yield y) { toList := [] } { toList := [] }, Value.pointer x.fst, Value.pointer x.snd.fst]) { toList := [9] } w2 (fun (x : Int × Unit) => [Value.int IntKind.i64 x.fst])
     (fun (l : Nat) (rec : Loop) (x : Int × Unit) (w3 : World) (R : Bool → World → Prop) =>
      RoP l rec [Value.int IntKind.i64 x.fst].length 1 w3
       (BeP l rec w3 fun (w5 : World) =>
        LdP w5 none (some { block := b, off := 0 }) (El.one (Sc.int IntKind.i64)) fun (x : Int) => StP w5 (some { block := b, off := 0 }) [Value.int IntKind.i64 (addI IntKind.i64 x 1)] fun (w2 : World) => FiP l rec none w2 R))
     fun (r : Nat) (rec : Loop) (w4 : World) =>
     rxAfter (r + 1) rec w4 (fun (w5 : World) => LdP w5 none (some { block := b, off := 0 }) (El.one (Sc.int IntKind.i64)) fun (x : Int) => ClP [r] w5 fun (w1 : World) => Post x w1)
      (fun (id : Nat) (w5 : World) =>
       Decidable.rec (fun (h : id = 0 → False) => False) (fun (h : id = 0) => LdP w5 none (some { block := b, off := 0 }) (El.one (Sc.int IntKind.i64)) fun (x : Int) => ClP [r] w5 fun (w1 : World) => Post x w1)
        (match h : id.beq 0 with
        | true => isTrue (Nat.eq_of_beq_eq_true h)
        | false => isFalse (Nat.ne_of_beq_eq_false h)))
      fun (w5 : World) => ClP [r] w5 fun (w1 : World) => Post 0 w1) := by kernel_rfl
def take_vc_ann : Nat → Slots := (fun | 5 => [(15, .one (.int .i64))] | _ => [])
theorem take_vc (p : Option Addr) (k o : Int) (w : World) (Post : Int × Int × Unit → World → Prop) : (rxFnR E0 take_vc_ann 101 [.pointer p, .int .i64 k, .int .i64 o] w Post) = (
 AlP w { toList := [Value.pointer p] } 32 fun (b : Nat) (w2 : World) =>
  AlP w2 { toList := [Value.int IntKind.i64 k] } 3 fun (b_1 : Nat) (w2 : World) =>
   AlP w2 { toList := [Value.int IntKind.i64 o] } 3 fun (b_2 : Nat) (w2 : World) =>
    AlP w2 { toList := [Value.int IntKind.i64 0] } 3 fun (b_3 : Nat) (w2 : World) =>
     AlP w2 { toList := [Value.int IntKind.i64 0] } 40 fun (b_4 : Nat) (w2 : World) =>
      LdP w2 none (some { block := b, off := 0 }) (El.one Sc.ptr) fun (x : Option Addr) =>
       ∃ (x_1 : Int),
        QCalls Tryz.prog 32 [Value.pointer x] w2 (Value.int IntKind.i64 x_1) ∧
         brP (x_1 == 0)
          (StP w2 (some { block := b_3, off := 0 }) [Value.int IntKind.i64 0] fun (w2 : World) =>
           StP w2 (some { block := b_4, off := 0 }) [Value.int IntKind.i64 10] fun (w2 : World) =>
            EnP w2 fun (w1 : World) =>
             LdP w1 none (some { block := b_3, off := 0 }) (El.one (Sc.int IntKind.i64)) fun (x : Int) => LdP w1 none (some { block := b_4, off := 0 }) (El.one (Sc.int IntKind.i64)) fun (x_2 : Int) => Post (x, x_2, Unit.unit) w1)
          (LdP w2 none (some { block := b, off := 0 }) (El.one Sc.ptr) fun (x : Option Addr) =>
           CaP Tryz.prog 64 (Sh.el (El.one (Sc.clo 126 2))) [Value.pointer x, Value.int IntKind.i64 0] w2 fun (x : Option Addr × Option Addr × Unit) (w2 : World) =>
            RnP Tryz.prog 126 (fun (y : Nat) => [Value.func (Fn.yield y) { toList := [] } { toList := [] }, Value.pointer x.fst, Value.pointer x.snd.fst]) { toList := [15] } w2 (fun (x : Int × Unit) => [Value.int IntKind.i64 x.fst])
             (fun (l : Nat) (rec : Loop) (x : Int × Unit) (w3 : World) (R : Bool → World → Prop) =>
              RoP l rec [Value.int IntKind.i64 x.fst].length 1 w3
               (BeP l rec w3 fun (w5 : World) =>
                LdP w5 none (some { block := b, off := 0 }) (El.one Sc.ptr) fun (x_2 : Option Addr) =>
                 LdP w5 none (some { block := b_1, off := 0 }) (El.one (Sc.int IntKind.i64)) fun (x_3 : Int) =>
                  LdP w5 none (some { block := b_2, off := 0 }) (El.one (Sc.int IntKind.i64)) fun (x_4 : Int) =>
                   CaP Tryz.prog 65 (Sh.el (El.one (Sc.int IntKind.i64))) [Value.pointer x_2, Value.int IntKind.i64 x.fst, Value.int IntKind.i64 x_3, Value.int IntKind.i64 x_4] w5 fun (x_5 : Int) (w2 : World) =>
                    brP (x_5 != 0) (StP w2 (some { block := b_3, off := 0 }) [Value.int IntKind.i64 0] fun (w2 : World) => StP w2 (some { block := b_4, off := 0 }) [Value.int IntKind.i64 x_5] fun (w2 : World) => FiP l rec (some Code.ret) w2 R)
                     (StP w2 (some { block := b_3, off := 0 }) [Value.int IntKind.i64 x.fst] fun (w2 : World) => StP w2 (some { block := b_4, off := 0 }) [Value.int IntKind.i64 0] fun (w2 : World) => FiP l rec (some Code.ret) w2 R)))
             fun (r : Nat) (rec : Loop) (w4 : World) =>
             rxAfter (r + 1) rec w4
              (fun (w5 : World) =>
               StP w5 (some { block := b_3, off := 0 }) [Value.int IntKind.i64 0] fun (w2 : World) =>
                StP w2 (some { block := b_4, off := 0 }) [Value.int IntKind.i64 12] fun (w2 : World) =>
                 ClP [r] w2 fun (w1 : World) =>
                  LdP w1 none (some { block := b_3, off := 0 }) (El.one (Sc.int IntKind.i64)) fun (x : Int) => LdP w1 none (some { block := b_4, off := 0 }) (El.one (Sc.int IntKind.i64)) fun (x_2 : Int) => Post (x, x_2, Unit.unit) w1)
              (fun (id : Nat) (w5 : World) =>
               Decidable.rec (fun (h : id = 0 → False) => False)
                (fun (h : id = 0) =>
                 StP w5 (some { block := b_3, off := 0 }) [Value.int IntKind.i64 0] fun (w2 : World) =>
                  StP w2 (some { block := b_4, off := 0 }) [Value.int IntKind.i64 12] fun (w2 : World) =>
                   ClP [r] w2 fun (w1 : World) =>
                    LdP w1 none (some { block := b_3, off := 0 }) (El.one (Sc.int IntKind.i64)) fun (x : Int) => LdP w1 none (some { block := b_4, off := 0 }) (El.one (Sc.int IntKind.i64)) fun (x_2 : Int) => Post (x, x_2, Unit.unit) w1)
                (match h : id.beq 0 with
                | true => isTrue (Nat.eq_of_beq_eq_true h)
                | false => isFalse (Nat.ne_of_beq_eq_false h)))
              fun (w5 : World) =>
              ClP [r] w5 fun (w1 : World) =>
               LdP w1 none (some { block := b_3, off := 0 }) (El.one (Sc.int IntKind.i64)) fun (x : Int) => LdP w1 none (some { block := b_4, off := 0 }) (El.one (Sc.int IntKind.i64)) fun (x_2 : Int) => Post (x, x_2, Unit.unit) w1)) := by kernel_rfl
end Go.Proofs.YtkldededdgpmbaaGreat.D
namespace Go.Proofs.YtkldededdgpmbaaGreat.D
set_option linter.unusedSimpArgs false
set_option linter.unusedVariables false
set_option maxRecDepth 100000
open Go.RX
abbrev sD : List Sc := [.int .i64, .int .i64, .int .i64, .int .i64]
abbrev eD : El := .agg sD
abbrev DT : Type := Int × Int × Int × Int × Unit
def zD : DT := (0, 0, 0, 0, ())
/-- How many frames. -/
theorem len_ok {w : World} {bp n c : Nat} {a : Option Addr} (h : Blk w bp [.slice a n c]) : CallsR Tryz.prog 32 (.el (.one (.int .i64))) [.pointer (some ⟨bp, 0, none⟩)] w (fun x w' => x = (n : Int) ∧ Ext w w') := by
  refine rxFn_ok (C := E0) (ann := fun _ => []) (Eq.mpr (len_vc _ w _) ?_)
  have H := At.start [] w
  refine brP_neg rfl ⟨rfl, rfl, LdP.oldA H h (by simp) rfl ?_⟩
  repeat' (first
    | exact Go.RX.AtD.all H
    | exact And.intro (by first | rfl | decide +kernel) (Go.RX.AtD.all H)
    | refine And.intro (by first | exact rfl | exact trivial | exact fun _ => rfl | exact fun _ => trivial | exact ⟨rfl, by decide, by decide⟩ | exact ⟨by decide, by decide⟩ | decide +kernel | exact fun _ => by decide | exact fun _ => ⟨rfl, by decide, by decide⟩ | (dsimp only [List.length_cons, List.length_nil]; exact ⟨rfl, by decide, by decide⟩)) ?_
    | refine LdP.atA 0 H rfl rfl ?_
    | refine LdP.at 0 H rfl rfl ?_
    | refine AlP.go H fun b w1 H => ?_
    | refine StP.all 0 H rfl rfl rfl fun w1 H => ?_
    | refine StP.oneA 0 H rfl rfl rfl fun w1 H => ?_
    | refine StP.one 0 H rfl rfl rfl fun w1 H => ?_
    | with_reducible refine EnP.go H fun w1 H => ?_
    | refine shr_go ?_
    | refine brP_pos (by assumption) ?_
    | refine brP_neg (by assumption) ?_
    | refine brP_intro (fun c => ?_) (fun c => ?_))
theorem len_nil (w : World) : CallsR Tryz.prog 32 (.el (.one (.int .i64))) [.pointer none] w (fun x w' => x = 0 ∧ Ext w w') := by
  refine rxFn_ok (C := E0) (ann := fun _ => []) (Eq.mpr (len_vc _ w _) ?_)
  have H := At.start [] w
  refine brP_pos rfl ?_
  repeat' (first
    | exact Go.RX.AtD.all H
    | exact And.intro (by first | rfl | decide +kernel) (Go.RX.AtD.all H)
    | refine And.intro (by first | exact rfl | exact trivial | exact fun _ => rfl | exact fun _ => trivial | exact ⟨rfl, by decide, by decide⟩ | exact ⟨by decide, by decide⟩ | decide +kernel | exact fun _ => by decide | exact fun _ => ⟨rfl, by decide, by decide⟩ | (dsimp only [List.length_cons, List.length_nil]; exact ⟨rfl, by decide, by decide⟩)) ?_
    | refine LdP.atA 0 H rfl rfl ?_
    | refine LdP.at 0 H rfl rfl ?_
    | refine AlP.go H fun b w1 H => ?_
    | refine StP.all 0 H rfl rfl rfl fun w1 H => ?_
    | refine StP.oneA 0 H rfl rfl rfl fun w1 H => ?_
    | refine StP.one 0 H rfl rfl rfl fun w1 H => ?_
    | with_reducible refine EnP.go H fun w1 H => ?_
    | refine shr_go ?_
    | refine brP_pos (by assumption) ?_
    | refine brP_neg (by assumption) ?_
    | refine brP_intro (fun c => ?_) (fun c => ?_))
theorem of1_ok {w : World} {kc : Nat} {v : Int} (h : Blk w kc [.int .i64 v]) (d : DT) : CallsR Tryz.prog 97 (.el (.one .bool)) [.agg ⟨scsEmb sD d⟩, .pointer (some ⟨kc, 0, none⟩)] w (fun x w' => x = (d.1 == v) ∧ Ext w w') := by
  obtain ⟨k, o, r, e, u⟩ := d
  refine rxFn_ok (C := E0) (ann := fun _ => []) (Eq.mpr (of1_vc k o r e _ w _) ?_)
  have H := At.start [] w
  repeat' (first
    | refine LdP.old H h (by simp) rfl ?_
    | exact Go.RX.AtD.all H
    | exact And.intro (by first | rfl | decide +kernel) (Go.RX.AtD.all H)
    | refine And.intro (by first | exact rfl | exact trivial | exact fun _ => rfl | exact fun _ => trivial | exact ⟨rfl, by decide, by decide⟩ | exact ⟨by decide, by decide⟩ | decide +kernel | exact fun _ => by decide | exact fun _ => ⟨rfl, by decide, by decide⟩ | (dsimp only [List.length_cons, List.length_nil]; exact ⟨rfl, by decide, by decide⟩)) ?_
    | refine LdP.atA 0 H rfl rfl ?_
    | refine LdP.at 0 H rfl rfl ?_
    | refine AlP.go H fun b w1 H => ?_
    | refine StP.all 0 H rfl rfl rfl fun w1 H => ?_
    | refine StP.oneA 0 H rfl rfl rfl fun w1 H => ?_
    | refine StP.one 0 H rfl rfl rfl fun w1 H => ?_
    | with_reducible refine EnP.go H fun w1 H => ?_
    | refine shr_go ?_
    | refine brP_pos (by assumption) ?_
    | refine brP_neg (by assumption) ?_
    | refine brP_intro (fun c => ?_) (fun c => ?_))
section
variable {D G : List Nat} {w0 w : World} {L : List (Nat × List Value)}
/-- The frames of a kind, to be ranged over. -/
theorem of_at (H : AtD D G w0 w L) (p : Option Addr) (k : Int) {K : Option Addr × Option Addr × Unit → World → Prop}
    (hk : ∀ pc ic kc w1, AtD D G w0 w1 ((ic, [.func (.func 97) #[] #[.pointer (some ⟨kc, 0, none⟩)]]) :: (pc, [.pointer p]) :: (kc, [.int .i64 k]) :: L) → K (some ⟨pc, 0, none⟩, some ⟨ic, 0, none⟩, ()) w1) :
    CaP Tryz.prog 64 cloS [.pointer p, .int .i64 k] w K := by
  refine CaP.go H fun w1 H => rxFn_ok (C := E0) (ann := fun _ => []) (Eq.mpr (of_vc p k w1 K) ?_)
  refine AlP.go H fun kc w2 H => CaP.go H fun w3 H => rxFn_ok (C := E0) (ann := fun _ => []) (Eq.mpr (such_vc p _ w3 _) ?_)
  refine AlP.go H fun pc w4 H => AlP.go H fun ic w5 H => EnP.go H fun w6 H => EnP.go H fun w7 H => ?_
  exact hk pc ic kc w7 H
end
/-- What a range over frames leans on. -/
def SuchSt (fn : FuncId) (pc ic kc bp bf c : Nat) (v : Int) (ds : List DT) (rest : List Value) (w : World) : Prop :=
  Blk w pc [.pointer (some ⟨bp, 0, none⟩)] ∧ Blk w ic [.func (.func fn) #[] #[.pointer (some ⟨kc, 0, none⟩)]] ∧ Blk w kc [.int .i64 v] ∧ Blk w bp [.slice (some ⟨bf, 0, none⟩) ds.length c] ∧ Blk w bf (flat eD ds ++ rest)
theorem such1_it {pc ic kc bp bf c : Nat} {v : Int} {ds : List DT} {rest : List Value} (hlen : ds.length ≤ 4096) :
    ItOk Tryz.prog 126 (fun y => [.func (.yield y) #[] #[], .pointer (some ⟨pc, 0, none⟩), .pointer (some ⟨ic, 0, none⟩)]) ds.length
      (fun i => match ds[i]? with
        | some d => if d.1 = v then some [.int .i64 (i : Nat)] else none
        | none => none) (SuchSt 97 pc ic kc bp bf c v ds rest) := by
  intro y w J Dn hJ hD hS hskip hyield h0
  have key : CallsR Tryz.prog 126 (shF E1 126) [.func (.yield y) #[] #[], .pointer (some ⟨pc, 0, none⟩), .pointer (some ⟨ic, 0, none⟩)] w (fun _ w' => J ds.length w' ∨ Dn w') := by
    refine rxFn_ok (C := E1) (ann := such1_vc_ann) (Eq.mpr (such1_vc y _ _ w _) ?_)
    obtain ⟨s1, s2, s3, s4, s5⟩ := hS 0 w h0
    refine LdP.of _ (s1.rd1 rfl) (brP_neg rfl (LdP.of _ (s1.rd1 rfl) ⟨rfl, rfl, LdP.of (some ⟨bf, 0, none⟩, ds.length, c) (by rw [addP_B]; exact s4.rd1 rfl) ?_⟩))
    refine ⟨fun n s w' => ∃ i : Nat, s.1 = i ∧ n + i = ds.length ∧ J i w', ⟨ds.length, fun w1 h1 => ⟨0, rfl, rfl, hJ _ _ _ h0 h1⟩⟩, ?_⟩
    rintro n ⟨i', u⟩ w1 ⟨i, hi, hn, hj⟩
    simp only at hi
    subst hi
    dsimp only
    refine brP_intro (fun c => ?_) (fun c => ?_)
    · have hlt : i < ds.length := by simp only [decide_eq_true_eq] at c; omega
      obtain ⟨s1, s2, s3, s4, s5⟩ := hS i w1 hj
      have hget : ds[i]? = some ds[i] := List.getElem?_eq_getElem hlt
      refine ⟨⟨rfl, by omega, by omega⟩, LdP.of ds[i] (rd_flat s5 hget) ?_⟩
      have H := At.start [] w1
      have next : ∀ w', J (i + 1) w' → ∀ w3, Ext w' w3 → ∃ n', n' < n ∧ ∃ j : Nat, addI .i64 (i : Nat) 1 = j ∧ n' + j = ds.length ∧ J j w3 := fun w' hj' w3 h3 =>
        ⟨n - 1, by omega, i + 1, by rw [addI_i64 (by omega) (by omega)]; rfl, by omega, hJ _ _ _ hj' h3⟩
      generalize hd : ds[i] = d
      rw [hd] at hget
      refine AlP.go H fun b w2 H => StP.all 0 H rfl rfl rfl fun w2 H => LdP.of (some ⟨kc, 0, none⟩, ()) ((H.old s2 (by simp)).rd1 rfl) (LdP.at 0 H rfl rfl ?_)
      have hj2 := hJ _ _ _ hj H.all
      refine ⟨d.1 == v, QCalls.of (s := .el (.one .bool)) fun w' h' => of1_ok ((H.old s3 (by simp)).ext h') d, brP_intro (fun c => fun w3 h3 => ?_) (fun c => ?_)⟩
      · refine hyield i _ hlt (by simp only [hget]; rw [if_pos (by simpa using c)]) w3 _ (hJ _ _ _ hj2 h3) (fun w' hj' => ?_) (fun w' hd' => ?_)
        · exact brP_neg rfl (next w' hj')
        · exact brP_pos rfl fun w4 h4 => .inr (hD _ _ hd' h4)
      · exact next _ (hskip i hlt (by simp only [hget]; rw [if_neg (by simpa using c)]) _ hj2)
    · have : i = ds.length := by simp only [decide_eq_false_iff_not] at c; omega
      subst this
      exact fun w2 h2 => .inl (hJ _ _ _ hj h2)
  exact Calls.mono key fun e w' ⟨x, he, hj⟩ => ⟨_, he, hj⟩
end Go.Proofs.YtkldededdgpmbaaGreat.D
namespace Go.Proofs.YtkldededdgpmbaaGreat.D
set_option linter.unusedSimpArgs false
set_option linter.unusedVariables false
set_option maxRecDepth 100000
open Go.RX
/-! ### A frame's descriptor is changed -/
def turnG (k o : Int) (d : DT) : DT × Int := ((nextK d.1 d.2.1 d.2.2.1 d.2.2.2.1 k o, nextO d.1 d.2.1 d.2.2.1 d.2.2.2.1 k o, 0, 0, ()), nextE d.1 d.2.1 d.2.2.1 d.2.2.2.1 k o)
def refG (x : Int) (d : DT) : DT × Int := (refV d.1 d.2.1 d.2.2.1 d.2.2.2.1 x, refE d.1 d.2.1 d.2.2.1 d.2.2.2.1 x)
def chE (ds : List DT) (f : Int) (g : DT → DT × Int) : Int := if ds.length = 0 then 10 else if f < 0 ∨ f ≥ ds.length then 2 else (g (ds.getD f.toNat zD)).2
def chL (ds : List DT) (f : Int) (g : DT → DT × Int) : List DT := if f < 0 ∨ f ≥ ds.length then ds else if (g (ds.getD f.toNat zD)).2 = 0 then ds.set f.toNat (g (ds.getD f.toNat zD)).1 else ds
theorem chE_empty {ds : List DT} (h : ds.length = 0) (f : Int) (g : DT → DT × Int) : chE ds f g = 10 := if_pos h
theorem chL_empty {ds : List DT} (h : ds.length = 0) (f : Int) (g : DT → DT × Int) : chL ds f g = ds := if_pos (by omega)
theorem chE_out {ds : List DT} (h : ds.length ≠ 0) {f : Int} (h1 : f < 0 ∨ f ≥ ds.length) (g : DT → DT × Int) : chE ds f g = 2 := by unfold chE; rw [if_neg h, if_pos h1]
theorem chL_out {ds : List DT} {f : Int} (h1 : f < 0 ∨ f ≥ ds.length) (g : DT → DT × Int) : chL ds f g = ds := if_pos h1
theorem chE_in {ds : List DT} {f : Int} (h1 : 0 ≤ f ∧ f < ds.length) (g : DT → DT × Int) : chE ds f g = (g (ds.getD f.toNat zD)).2 := by unfold chE; rw [if_neg (by omega), if_neg (by omega)]
theorem chL_in {ds : List DT} {f : Int} (h1 : 0 ≤ f ∧ f < ds.length) (g : DT → DT × Int) : chL ds f g = if (g (ds.getD f.toNat zD)).2 = 0 then ds.set f.toNat (g (ds.getD f.toNat zD)).1 else ds := by unfold chL; rw [if_neg (by omega)]
theorem chL_len (ds : List DT) (f : Int) (g : DT → DT × Int) : (chL ds f g).length = ds.length := by
  unfold chL; split
  · rfl
  · split
    · simp
    · rfl
theorem turn1_ok {w : World} {kc oc : Nat} {k o : Int} (hk : Blk w kc [.int .i64 k]) (ho : Blk w oc [.int .i64 o]) (d : DT) : CallsR Tryz.prog 99 (.tup [eD, .one (.int .i64)]) [.agg ⟨scsEmb sD d⟩, .pointer (some ⟨kc, 0, none⟩), .pointer (some ⟨oc, 0, none⟩)] w
    (fun v w' => v = ((turnG k o d).1, (turnG k o d).2, ()) ∧ Ext w w') := by
  obtain ⟨a, b, c, e, u⟩ := d
  refine rxFnR_ok (C := E0) (ann := fun _ => []) (Eq.mpr (turn1_vc a b c e _ _ w _) ?_)
  have H := At.start [] w
  repeat' (first
    | refine LdP.old H hk (by simp) rfl ?_
    | refine LdP.old H ho (by simp) rfl ?_
    | exact Go.RX.AtD.all H
    | exact And.intro (by first | rfl | decide +kernel) (Go.RX.AtD.all H)
    | refine And.intro (by first | exact rfl | exact trivial | exact fun _ => rfl | exact fun _ => trivial | exact ⟨rfl, by decide, by decide⟩ | exact ⟨by decide, by decide⟩ | decide +kernel | exact fun _ => by decide | exact fun _ => ⟨rfl, by decide, by decide⟩ | (dsimp only [List.length_cons, List.length_nil]; exact ⟨rfl, by decide, by decide⟩)) ?_
    | refine LdP.atA 0 H rfl rfl ?_
    | refine LdP.atA 1 H rfl rfl ?_
    | refine LdP.at 0 H rfl rfl ?_
    | refine LdP.at 1 H rfl rfl ?_
    | refine AlP.go H fun b w1 H => ?_
    | refine StP.all 0 H rfl rfl rfl fun w1 H => ?_
    | refine StP.all 1 H rfl rfl rfl fun w1 H => ?_
    | refine StP.oneA 0 H rfl rfl rfl fun w1 H => ?_
    | refine StP.oneA 1 H rfl rfl rfl fun w1 H => ?_
    | refine StP.one 0 H rfl rfl rfl fun w1 H => ?_
    | refine StP.one 1 H rfl rfl rfl fun w1 H => ?_
    | with_reducible refine EnP.go H fun w1 H => ?_
    | refine shr_go ?_
    | refine brP_pos (by assumption) ?_
    | refine brP_neg (by assumption) ?_
    | refine brP_intro (fun c => ?_) (fun c => ?_))
theorem changeT_ok {w : World} {bp bf c kc oc : Nat} {k o : Int} {ds : List DT} {rest : List Value} (hp : Blk w bp [.slice (some ⟨bf, 0, none⟩) ds.length c]) (hf : Blk w bf (flat eD ds ++ rest)) (hne : bp ≠ bf) (hlen : ds.length ≤ 4096) (hk : Blk w kc [.int .i64 k]) (ho : Blk w oc [.int .i64 o]) (hkb : kc ≠ bf) (hob : oc ≠ bf) (f : Int) :
    CallsR Tryz.prog 98 (.el (.one (.int .i64))) [.pointer (some ⟨bp, 0, none⟩), .int .i64 f, .func (.func 99) #[] #[.pointer (some ⟨kc, 0, none⟩), .pointer (some ⟨oc, 0, none⟩)]] w
      (fun e w' => e = chE ds f (turnG k o) ∧ Blk w' bf (flat eD (chL ds f (turnG k o)) ++ rest) ∧ Fr [bf] w w') := by
  refine rxFn_ok (C := E0) (ann := fun _ => []) (Eq.mpr (change_vc _ f _ _ w _) ?_)
  have H := At.start1 hf
  have hp' : bp ∉ [bf] := by simpa using hne
  refine ⟨(ds.length : Int), QCalls.of (s := .el (.one (.int .i64))) fun w' h => len_ok (hp.ext h), brP_intro (fun c0 => EnP.go H fun w1 H => ?_) (fun c0 => ⟨fun _ => rfl, fun _ => rfl, LdP.oldA H hp hp' rfl (brP_intro (fun c1 => EnP.go H fun w1 H => ?_) (fun c1 => ?_))⟩)⟩
  · have h0 : ds.length = 0 := by simp only [beq_iff_eq] at c0; omega
    exact ⟨(chE_empty h0 f _).symm, by rw [chL_empty h0]; exact H.get (i := 0) rfl, H.fr⟩
  · have h0 : ds.length ≠ 0 := by simp only [beq_eq_false_iff_ne, ne_eq] at c0; omega
    have h1 : f < 0 ∨ f ≥ ds.length := by simpa using c1
    exact ⟨(chE_out h0 h1 _).symm, by rw [chL_out h1]; exact H.get (i := 0) rfl, H.fr⟩
  · have h0 : ds.length ≠ 0 := by simp only [beq_eq_false_iff_ne, ne_eq] at c0; omega
    have h1 : 0 ≤ f ∧ f < ds.length := by simp only [Bool.or_eq_false_iff, decide_eq_false_iff_not] at c1; omega
    have hlt : f.toNat < ds.length := by omega
    have hget : ds[f.toNat]? = some ds[f.toNat] := List.getElem?_eq_getElem hlt
    have hgd : ds.getD f.toNat zD = ds[f.toNat] := by rw [List.getD_eq_getElem?_getD, hget]; rfl
    have hE := chE_in h1 (turnG k o)
    have hL := chL_in h1 (turnG k o)
    rw [hgd] at hE hL
    generalize hd : ds[f.toNat] = d at *
    refine ⟨rfl, rfl, LdP.oldA H hp hp' rfl ⟨⟨rfl, h1.1, h1.2⟩, LdP.of d (rd_flat (H.get (i := 0) rfl) hget) ?_⟩⟩
    refine CaP.val H (s := .tup [eD, .one (.int .i64)]) (((turnG k o) d).1, ((turnG k o) d).2, ()) (fun w1 H => turn1_ok (H.old hk (by simpa using hkb)) (H.old ho (by simpa using hob)) d) fun w1 H => ?_
    refine AlP.go H fun b w2 H => StP.all 0 H rfl rfl rfl fun w2 H => brP_intro (fun c2 => ⟨rfl, rfl, LdP.oldA H hp hp' rfl (LdP.at 0 H rfl rfl ⟨⟨rfl, h1.1, h1.2⟩, ?_⟩)⟩) (fun c2 => EnP.go H fun w3 H => ?_)
    · have c2' : ((turnG k o) d).2 = 0 := by simpa using c2
      refine StP.flat (e := eD) 1 H (xs := ds) (rest := rest) ((turnG k o) d).1 rfl rfl rfl hlt fun w3 H => EnP.go H fun w4 H => ?_
      exact ⟨hE.symm, by rw [hL, if_pos c2']; exact H.get (i := 1) rfl, H.fr⟩
    · have c2' : ¬ ((turnG k o) d).2 = 0 := by simpa using c2
      exact ⟨hE.symm, by rw [hL, if_neg c2']; exact H.get (i := 1) rfl, H.fr⟩
theorem turn_ok {w : World} {bp bf c : Nat} {ds : List DT} {rest : List Value} (hp : Blk w bp [.slice (some ⟨bf, 0, none⟩) ds.length c]) (hf : Blk w bf (flat eD ds ++ rest)) (hne : bp ≠ bf) (hlen : ds.length ≤ 4096) (f k o : Int) :
    CallsR Tryz.prog 65 (.el (.one (.int .i64))) [.pointer (some ⟨bp, 0, none⟩), .int .i64 f, .int .i64 k, .int .i64 o] w (fun e w' => e = chE ds f (turnG k o) ∧ Blk w' bf (flat eD (chL ds f (turnG k o)) ++ rest) ∧ Fr [bf] w w') := by
  refine rxFn_ok (C := E0) (ann := fun _ => []) (Eq.mpr (turn_vc _ f k o w _) ?_)
  have H := At.start1 hf
  have hp' : bp ∉ [bf] := by simpa using hne
  refine AlP.go H fun kc w1 H => AlP.go H fun oc w2 H => ?_
  refine CaP.mod1 H 2 rfl (fun w3 H => changeT_ok (H.old hp hp') (H.get (i := 2) rfl) hne hlen (H.get (i := 1) rfl) (H.get (i := 0) rfl) (H.ne (i := 1) (j := 2) rfl rfl (by decide)) (H.ne (i := 0) (j := 2) rfl rfl (by decide)) f) fun w3 H => EnP.go H fun w4 H => ?_
  exact ⟨rfl, H.get (i := 2) rfl, H.fr⟩
/-- A frame's descriptor. -/
def ofV (ds : List DT) (f : Int) : DT := if f < 0 ∨ f ≥ ds.length then zD else ds.getD f.toNat zD
def ofB (ds : List DT) (f : Int) : Bool := !(decide (f < 0 ∨ f ≥ ds.length))
theorem pof_ok {w : World} {bp bf c : Nat} {ds : List DT} {rest : List Value} (hp : Blk w bp [.slice (some ⟨bf, 0, none⟩) ds.length c]) (hf : Blk w bf (flat eD ds ++ rest)) (f : Int) :
    CallsR Tryz.prog 33 (.tup [eD, .one .bool]) [.pointer (some ⟨bp, 0, none⟩), .int .i64 f] w (fun v w' => v = (ofV ds f, ofB ds f, ()) ∧ Ext w w') := by
  refine rxFnR_ok (C := E0) (ann := fun _ => []) (Eq.mpr (pof_vc _ f w _) ?_)
  have H := At.start [] w
  refine AlP.go H fun b w1 H => ⟨(ds.length : Int), fun _ => QCalls.of (s := .el (.one (.int .i64))) fun w' h => len_ok ((H.old hp (by simp)).ext h), brP_intro (fun c1 => ?_) (fun c1 => ?_)⟩
  · have h1 : f < 0 ∨ f ≥ ds.length := by simpa using c1
    have e1 : ofV ds f = zD := if_pos h1
    have e2 : ofB ds f = false := by unfold ofB; simp [h1]
    rw [e1, e2]
    repeat' (first
      | exact Go.RX.AtD.all H
      | exact And.intro (by first | rfl | decide +kernel) (Go.RX.AtD.all H)
      | refine And.intro (by first | exact rfl | exact trivial | exact fun _ => rfl | exact fun _ => trivial | exact ⟨rfl, by decide, by decide⟩ | exact ⟨by decide, by decide⟩ | decide +kernel | exact fun _ => by decide | exact fun _ => ⟨rfl, by decide, by decide⟩ | (dsimp only [List.length_cons, List.length_nil]; exact ⟨rfl, by decide, by decide⟩)) ?_
      | refine LdP.atA 0 H rfl rfl ?_
      | refine LdP.at 0 H rfl rfl ?_
      | refine AlP.go H fun b w1 H => ?_
      | refine StP.all 0 H rfl rfl rfl fun w1 H => ?_
      | refine StP.oneA 0 H rfl rfl rfl fun w1 H => ?_
      | refine StP.one 0 H rfl rfl rfl fun w1 H => ?_
      | with_reducible refine EnP.go H fun w1 H => ?_
      | refine shr_go ?_
      | refine brP_pos (by assumption) ?_
      | refine brP_neg (by assumption) ?_
      | refine brP_intro (fun c => ?_) (fun c => ?_))
  · have h1 : ¬ (f < 0 ∨ f ≥ ds.length) := by
      simp only [Bool.or_eq_false_iff, decide_eq_false_iff_not] at c1
      rintro (h | h)
      · exact c1.1 h
      · exact c1.2 h
    have hlt : f.toNat < ds.length := by omega
    have hget : ds[f.toNat]? = some ds[f.toNat] := List.getElem?_eq_getElem hlt
    have hgd : ds.getD f.toNat zD = ds[f.toNat] := by rw [List.getD_eq_getElem?_getD, hget]; rfl
    have e1 : ofV ds f = ds[f.toNat] := by unfold ofV; rw [if_neg h1, hgd]
    have e2 : ofB ds f = true := by unfold ofB; simp [h1]
    rw [e1, e2]
    refine ⟨rfl, rfl, LdP.oldA H hp (by simp) rfl ⟨⟨rfl, Int.not_lt.1 (fun h => h1 (.inl h)), Int.not_le.1 (fun h => h1 (.inr h))⟩, LdP.of ds[f.toNat] (rd_flat (H.old hf (by simp)) hget) ?_⟩⟩
    repeat' (first
      | exact Go.RX.AtD.all H
      | exact And.intro (by first | rfl | decide +kernel) (Go.RX.AtD.all H)
      | refine And.intro (by first | exact rfl | exact trivial | exact fun _ => rfl | exact fun _ => trivial | exact ⟨rfl, by decide, by decide⟩ | exact ⟨by decide, by decide⟩ | decide +kernel | exact fun _ => by decide | exact fun _ => ⟨rfl, by decide, by decide⟩ | (dsimp only [List.length_cons, List.length_nil]; exact ⟨rfl, by decide, by decide⟩)) ?_
      | refine LdP.atA 0 H rfl rfl ?_
      | refine LdP.at 0 H rfl rfl ?_
      | refine AlP.go H fun b w1 H => ?_
      | refine StP.all 0 H rfl rfl rfl fun w1 H => ?_
      | refine StP.oneA 0 H rfl rfl rfl fun w1 H => ?_
      | refine StP.one 0 H rfl rfl rfl fun w1 H => ?_
      | with_reducible refine EnP.go H fun w1 H => ?_
      | refine shr_go ?_
      | refine brP_pos (by assumption) ?_
      | refine brP_neg (by assumption) ?_
      | refine brP_intro (fun c => ?_) (fun c => ?_))
end Go.Proofs.YtkldededdgpmbaaGreat.D
namespace Go.Proofs.YtkldededdgpmbaaGreat.D
set_option linter.unusedSimpArgs false
set_option linter.unusedVariables false
set_option maxRecDepth 100000
open Go.RX
section
variable {D G : List Nat} {w0 w : World} {L : List (Nat × List Value)}
theorem zD_flat (n : Nat) : (List.replicate n [Value.int .i64 0, Value.int .i64 0, Value.int .i64 0, Value.int .i64 0]).flatten = flat eD (List.replicate n zD) ++ [] := by
  rw [List.append_nil, flat_replicate]; rfl
/-- A new pool. -/
theorem pnew_at (H : AtD D G w0 w L) (n : Int) {K : Option Addr × Int × Unit → World → Prop} (hb : n < 1 ∨ n > 4096 → ∀ w1, AtD D G w0 w1 L → K (none, 1, ()) w1)
    (hg : 1 ≤ n → n ≤ 4096 → ∀ bp bf w1, AtD D G w0 w1 ((bp, [.slice (some ⟨bf, 0, none⟩) n.toNat n.toNat]) :: (bf, flat eD (List.replicate n.toNat zD) ++ []) :: L) → K (some ⟨bp, 0, none⟩, 0, ()) w1) :
    CaP Tryz.prog 35 (.tup [.one .ptr, .one (.int .i64)]) [.int .i64 n] w K := by
  refine CaP.go H fun w1 H => rxFn_ok (C := E0) (ann := fun _ => []) (Eq.mpr (pnew_vc n w1 K) ?_)
  refine brP_intro (fun c => EnP.go H fun w2 H => hb (by simpa using c) w2 H) (fun c => ?_)
  have h1 : 1 ≤ n ∧ n ≤ 4096 := by simp only [Bool.or_eq_false_iff, decide_eq_false_iff_not] at c; omega
  refine MkP.go H rfl (by omega) (by omega) (by omega) (by omega) fun bf w2 H => ?_
  rw [zD_flat] at H
  exact AlP.go H fun bp w3 H => EnP.go H fun w4 H => hg h1.1 h1.2 bp bf w4 H
/-- Another one that stands there. -/
theorem copy_at (H : AtD D G w0 w L) {bp bf n c : Nat} {ds : List DT} {rest : List Value} (hp : Blk w bp [.slice (some ⟨bf, 0, none⟩) n c]) (hf : Blk w bf (flat eD ds ++ rest)) (hn : n = ds.length) (h0 : 0 < n) (hlen : n ≤ 4096) {K : Option Addr → World → Prop}
    (hk : ∀ bp' bf' c' rest' w1, AtD D G w0 w1 ((bp', [.slice (some ⟨bf', 0, none⟩) n c']) :: (bf', flat eD ds ++ rest') :: L) → K (some ⟨bp', 0, none⟩) w1) :
    CallsR Tryz.prog 29 (.el (.one .ptr)) [.pointer (some ⟨bp, 0, none⟩)] w K := by
  refine rxFn_ok (C := E0) (ann := fun _ => []) (Eq.mpr (copy_vc _ w K) ?_)
  refine ⟨(n : Int), QCalls.of (s := .el (.one (.int .i64))) fun w' h => len_ok (hp.ext h), brP_intro (fun c0 => ?_) (fun c0 => ⟨rfl, rfl, LdP.of (some ⟨bf, 0, none⟩, n, c) (by rw [addP_B]; exact hp.rd1 rfl) fun w1 h1 => ?_⟩)⟩
  · simp only [beq_iff_eq] at c0; omega
  · refine apR.copy (H.ext h1) (e := eD) (ys := ds) (hf.ext h1) ?_ hn (by intro e; subst e; simp at hn; omega) rfl rfl rfl (by omega) fun bf' c' rest' w2 H => AlP.go H fun bp' w3 H => EnP.go H fun w4 H => hk bp' bf' c' rest' w4 H
    rw [List.take_append_of_le_length (by rw [flat_length]; exact Nat.le_refl _), List.take_of_length_le (by rw [flat_length]; exact Nat.le_refl _)]
end
theorem copy_nil (w : World) : CallsR Tryz.prog 29 (.el (.one .ptr)) [.pointer none] w (fun x w' => x = none ∧ Ext w w') := by
  refine rxFn_ok (C := E0) (ann := fun _ => []) (Eq.mpr (copy_vc _ w _) ?_)
  exact ⟨0, QCalls.of (s := .el (.one (.int .i64))) fun w' h => len_nil w', brP_pos rfl fun w1 h1 => ⟨rfl, h1⟩⟩
/-! ### What is counted -/
def cntL (ds : List DT) (v : Int) : Nat := ds.countP fun d => d.1 == v
def ownL (ds : List DT) (v : Int) : List Nat := (List.range ds.length).filter fun i => match ds[i]? with
  | some d => d.2.1 == v
  | none => false
theorem cnt_take {ds : List DT} {v : Int} {i : Nat} {d : DT} (h : ds[i]? = some d) : cntL (ds.take (i + 1)) v = cntL (ds.take i) v + (if d.1 = v then 1 else 0) := by
  unfold cntL
  rw [List.take_add_one, h, List.countP_append]
  congr 1
  simp
theorem yv_some {ds : List DT} {i : Nat} {v : Int} {sel : DT → Int} {x : List Value} (h : (match ds[i]? with
    | some d => if sel d = v then some [Value.int .i64 (i : Nat)] else none
    | none => none) = some x) : ∃ d, ds[i]? = some d ∧ sel d = v ∧ x = [Value.int .i64 (i : Nat)] := by
  split at h
  · rename_i d hd
    split at h
    · rename_i hs; cases h; exact ⟨d, hd, hs, rfl⟩
    · cases h
  · cases h
theorem yv_none {ds : List DT} {i : Nat} {v : Int} {sel : DT → Int} (hi : i < ds.length) (h : (match ds[i]? with
    | some d => if sel d = v then some [Value.int .i64 (i : Nat)] else none
    | none => none) = none) : ∃ d, ds[i]? = some d ∧ sel d ≠ v := by
  rw [List.getElem?_eq_getElem hi] at h
  refine ⟨ds[i], List.getElem?_eq_getElem hi, ?_⟩
  intro hs
  simp only [hs, if_true] at h
  cases h
theorem count_ok {w : World} {bp bf n c : Nat} {ds : List DT} {rest : List Value} (hp : Blk w bp [.slice (some ⟨bf, 0, none⟩) n c]) (hf : Blk w bf (flat eD ds ++ rest)) (hn : n = ds.length) (hlen : n ≤ 4096) (v : Int) :
    CallsR Tryz.prog 26 (.el (.one (.int .i64))) [.pointer (some ⟨bp, 0, none⟩), .int .i64 v] w (fun x w' => x = (cntL ds v : Int) ∧ Ext w w') := by
  subst hn
  refine rxFnR_ok (C := E0) (ann := count_vc_ann) (Eq.mpr (count_vc _ v w _) ?_)
  have H := At.start [] w
  refine AlP.go H fun b w1 H => StP.all 0 H rfl rfl rfl fun w2 H => of_at H _ v fun pc ic kc w3 H => ?_
  refine RnP.go H (such1_it (v := v) (pc := pc) (ic := ic) (kc := kc) (bp := bp) (bf := bf) (c := c) (rest := rest) hlen)
    (fun i => [(ic, [.func (.func 97) #[] #[.pointer (some ⟨kc, 0, none⟩)]]), (pc, [.pointer (some ⟨bp, 0, none⟩)]), (kc, [.int .i64 v]), (b, [.int .i64 (cntL (ds.take i) v : Nat)])])
    (fun _ _ => False) rfl ?_ ?_ ?_ ?_ ?_ ?_
  · exact fun D' i w' H => ⟨H.get (i := 1) rfl, H.get (i := 0) rfl, H.get (i := 2) rfl, H.old hp (by simp), H.old hf (by simp)⟩
  · intro i hi hy
    obtain ⟨d, hd, hs⟩ := yv_none hi hy
    simp only [cnt_take hd, if_neg hs, Nat.add_zero]
  · intro i x hi hy
    obtain ⟨d, hd, hs, rfl⟩ := yv_some hy
    exact ⟨((i : Nat), ()), rfl⟩
  · intro i x hi hy r l rec w4 R hr h1 _
    obtain ⟨d, hd, hs, hx⟩ := yv_some hy
    refine RoP.go hr rfl (BeP.go hr fun wb H hB => LdP.at 3 H rfl rfl (StP.all 3 H rfl rfl rfl fun w5 H => FiP.next hB H fun w7 h7 => h1 w7 ?_))
    have hle : cntL (ds.take i) v ≤ 4096 := Nat.le_trans List.countP_le_length (by rw [List.length_take]; omega)
    have e : addI .i64 ((cntL (ds.take i) v : Nat) : Int) 1 = ((cntL (ds.take (i + 1)) v : Nat) : Int) := by
      rw [cnt_take hd, if_pos hs, addI_i64 (by omega) (by omega)]; rfl
    rw [← e]
    exact h7
  · intro r rec w4 hr
    refine rxAfter.none hr fun w5 H => LdP.at 3 H rfl rfl (ClP.go H fun w6 H => ?_)
    exact ⟨by rw [List.take_length], H.all⟩
  · exact fun j L' r rec w4 hq _ => hq.elim
theorem own_take {ds : List DT} {v : Int} {i : Nat} {d : DT} (h : ds[i]? = some d) : ownL (ds.take (i + 1)) v = ownL (ds.take i) v ++ (if d.2.1 = v then [i] else []) := by
  have hi : i < ds.length := (List.getElem?_eq_some_iff.1 h).1
  unfold ownL
  rw [List.length_take, List.length_take, Nat.min_eq_left (by omega), Nat.min_eq_left (by omega), List.range_succ, List.filter_append]
  congr 1
  · apply List.filter_congr
    intro j hj
    have hj' : j < i := by simpa using hj
    rw [List.getElem?_take_of_lt (by omega), List.getElem?_take_of_lt hj']
  · simp only [List.filter_cons, List.filter_nil, List.getElem?_take_of_lt (Nat.lt_succ_self i), h, beq_iff_eq]
def intsN (l : List Nat) : List (Int × Unit) := l.map fun i => ((i : Nat), ())
end Go.Proofs.YtkldededdgpmbaaGreat.D
namespace Go.Proofs.YtkldededdgpmbaaGreat.D
set_option linter.unusedSimpArgs false
set_option linter.unusedVariables false
set_option maxRecDepth 100000
open Go.RX
/-- The first frame that is free. -/
def freeI (ds : List DT) : Option Nat := ds.findIdx? fun d => d.1 == 0
def takeF (ds : List DT) (k o : Int) : Int := match freeI ds with
  | none => 0
  | some f => if chE ds f (turnG k o) = 0 then (f : Int) else 0
def takeE (ds : List DT) (k o : Int) : Int := if ds.length = 0 then 10 else match freeI ds with
  | none => 12
  | some f => chE ds f (turnG k o)
def takeL (ds : List DT) (k o : Int) : List DT := match freeI ds with
  | none => ds
  | some f => chL ds f (turnG k o)
theorem takeL_len (ds : List DT) (k o : Int) : (takeL ds k o).length = ds.length := by
  unfold takeL; split
  · rfl
  · exact chL_len _ _ _
theorem free_none {ds : List DT} (h : ∀ (j : Nat) d, ds[j]? = some d → d.1 ≠ 0) : freeI ds = none := by
  unfold freeI
  rw [List.findIdx?_eq_none_iff]
  intro d hd
  obtain ⟨j, hj⟩ := List.getElem?_of_mem hd
  simpa using h j d hj
theorem free_some {ds : List DT} {i : Nat} {d : DT} (hi : ds[i]? = some d) (hd : d.1 = 0) (h : ∀ (j : Nat) d, j < i → ds[j]? = some d → d.1 ≠ 0) : freeI ds = some i := by
  unfold freeI
  have hlt : i < ds.length := (List.getElem?_eq_some_iff.1 hi).1
  rw [List.findIdx?_eq_some_iff_getElem]
  refine ⟨hlt, ?_, fun j hj => ?_⟩
  · have e : ds[i] = d := (List.getElem?_eq_some_iff.1 hi).2
    rw [e]; simpa using hd
  · have := h j ds[j] hj (List.getElem?_eq_getElem (by omega))
    simpa using this
theorem take_ok {w : World} {bp bf n c : Nat} {ds : List DT} {rest : List Value} (hp : Blk w bp [.slice (some ⟨bf, 0, none⟩) n c]) (hf : Blk w bf (flat eD ds ++ rest)) (hne : bp ≠ bf) (hn : n = ds.length) (hlen : n ≤ 4096) (k o : Int) :
    CallsR Tryz.prog 101 (.tup [.one (.int .i64), .one (.int .i64)]) [.pointer (some ⟨bp, 0, none⟩), .int .i64 k, .int .i64 o] w
      (fun v w' => v = (takeF ds k o, takeE ds k o, ()) ∧ Blk w' bf (flat eD (takeL ds k o) ++ rest) ∧ Fr [bf] w w') := by
  subst hn
  refine rxFnR_ok (C := E0) (ann := take_vc_ann) (Eq.mpr (take_vc _ k o w _) ?_)
  have H := At.start1 hf
  have hp' : bp ∉ [bf] := by simpa using hne
  refine AlP.go H fun b w1 H => AlP.go H fun b1 w2 H => AlP.go H fun b2 w3 H => AlP.go H fun b3 w4 H => AlP.go H fun b4 w5 H => LdP.at 4 H rfl rfl ?_
  refine ⟨(ds.length : Int), QCalls.of (s := .el (.one (.int .i64))) fun w' h => len_ok ((H.old hp hp').ext h), brP_intro (fun c0 => ?_) (fun c0 => LdP.at 4 H rfl rfl ?_)⟩
  · have h0 : ds.length = 0 := by simp only [beq_iff_eq] at c0; omega
    have hd : ds = [] := List.eq_nil_of_length_eq_zero h0
    refine StP.all 1 H rfl rfl rfl fun w6 H => StP.all 0 H rfl rfl rfl fun w7 H => EnP.go H fun w8 H => LdP.at 1 H rfl rfl (LdP.at 0 H rfl rfl ⟨?_, ?_, H.fr⟩)
    · subst hd; rfl
    · subst hd; exact H.get (i := 5) rfl
  have h0 : ds.length ≠ 0 := by simp only [beq_eq_false_iff_ne, ne_eq] at c0; omega
  refine of_at H _ 0 fun pc ic kc w6 H => ?_
  let T : Int → Int → List DT → List (Nat × List Value) := fun x y l => [(ic, [.func (.func 97) #[] #[.pointer (some ⟨kc, 0, none⟩)]]), (pc, [.pointer (some ⟨bp, 0, none⟩)]), (kc, [.int .i64 0]), (b4, [.int .i64 y]), (b3, [.int .i64 x]), (b2, [.int .i64 o]), (b1, [.int .i64 k]), (b, [.pointer (some ⟨bp, 0, none⟩)]), (bf, flat eD l ++ rest)]
  refine RnP.inv H (such1_it (v := 0) (pc := pc) (ic := ic) (kc := kc) (bp := bp) (bf := bf) (c := c) (rest := rest) hlen)
    (fun i L' => L' = T 0 0 ds ∧ ∀ (j : Nat) d, j < i → ds[j]? = some d → d.1 ≠ 0)
    (fun j L' => j = .ret ∧ ∃ i : Nat, freeI ds = some i ∧ L' = T (if chE ds i (turnG k o) = 0 then (i : Int) else 0) (chE ds i (turnG k o)) (chL ds i (turnG k o))) ⟨rfl, fun j d hj => absurd hj (by omega)⟩ ?_ ?_ ?_ ?_ ?_ ?_
  · rintro D' i w' L' ⟨rfl, _⟩ H
    exact ⟨H.get (i := 1) rfl, H.get (i := 0) rfl, H.get (i := 2) rfl, H.old hp hp', H.get (i := 8) rfl⟩
  · rintro i L' hi hy ⟨rfl, hj⟩
    obtain ⟨d, hd, hs⟩ := yv_none (sel := fun d => d.1) hi hy
    refine ⟨rfl, fun j d' hji hd' => ?_⟩
    by_cases e : j = i
    · subst e; rw [hd] at hd'; cases hd'; exact hs
    · exact hj j d' (by omega) hd'
  · intro i x hi hy
    obtain ⟨d, hd, hs, rfl⟩ := yv_some (sel := fun d => d.1) hy
    exact ⟨((i : Nat), ()), rfl⟩
  · rintro i ⟨x1, u⟩ L' hi hy ⟨rfl, hj⟩ r l rec w7 R hr _ h2
    obtain ⟨d, hd, hs, hx⟩ := yv_some (sel := fun d => d.1) hy
    have ex : x1 = ((i : Nat) : Int) := by
      have h : [Value.int .i64 x1] = [Value.int .i64 (i : Nat)] := hx
      simpa using h
    subst ex
    have hfr := free_some hd hs hj
    refine RoP.go hr rfl (BeP.go hr fun wb H hB => LdP.at 7 H rfl rfl (LdP.at 6 H rfl rfl (LdP.at 5 H rfl rfl ?_)))
    refine CaP.mod1 H 8 rfl (fun w8 H => turn_ok (hB.2.1.keep H hp hp') (H.get (i := 8) rfl) hne hlen _ k o) fun w8 H => brP_intro (fun c => ?_) (fun c => ?_)
    · have hc : ¬ chE ds (i : Nat) (turnG k o) = 0 := by simpa using c
      refine StP.all 4 H rfl rfl rfl fun w9 H => StP.all 3 H rfl rfl rfl fun w10 H => FiP.left hB H fun w11 h11 => h2 _ _ w11 ⟨rfl, i, hfr, ?_⟩ h11
      rw [if_neg hc]; rfl
    · have hc : chE ds (i : Nat) (turnG k o) = 0 := by simpa using c
      refine StP.all 4 H rfl rfl rfl fun w9 H => StP.all 3 H rfl rfl rfl fun w10 H => FiP.left hB H fun w11 h11 => h2 _ _ w11 ⟨rfl, i, hfr, ?_⟩ h11
      rw [if_pos hc, hc]; rfl
  · rintro L' r rec w7 ⟨rfl, hj⟩ hr
    have hfr : freeI ds = none := free_none fun j d hd => hj j d (List.getElem?_eq_some_iff.1 hd).1 hd
    refine rxAfter.none hr fun w8 H => StP.all 4 H rfl rfl rfl fun w9 H => StP.all 3 H rfl rfl rfl fun w10 H => ClP.go H fun w11 H => LdP.at 4 H rfl rfl (LdP.at 3 H rfl rfl ⟨?_, ?_, H.fr⟩)
    · unfold takeF takeE; rw [hfr, if_neg h0]
    · have : takeL ds k o = ds := by unfold takeL; rw [hfr]
      rw [this]; exact H.get (i := 8) rfl
  · rintro j L' r rec w7 ⟨rfl, i, hfr, rfl⟩ hr
    refine rxAfter.ret hr fun w8 H => ClP.go H fun w9 H => LdP.at 4 H rfl rfl (LdP.at 3 H rfl rfl ⟨?_, ?_, H.fr⟩)
    · unfold takeF takeE; rw [hfr, if_neg h0]
    · have : takeL ds k o = chL ds i (turnG k o) := by unfold takeL; rw [hfr]
      rw [this]; exact H.get (i := 8) rfl
end Go.Proofs.YtkldededdgpmbaaGreat.D
namespace Go.Proofs.YtkldededdgpmbaaGreat.D
set_option linter.unusedSimpArgs false
set_option linter.unusedVariables false
set_option maxRecDepth 100000
open Go.RX
theorem rpnew_vc (n : Int) (w : World) (Post : Option Addr × Int × Unit → World → Prop) : (rxFn E0 (fun _ => []) 37 [.int .i64 n] w Post) = (
 brP (decide (n < 1) || decide (n > 4096)) (AlP w { toList := [Value.slice none 0 0] } 87 fun (b : Nat) (w2 : World) => EnP w2 fun (w1 : World) => Post (some { block := b, off := 0 }, 1, Unit.unit) w1)
  (MkP w 32 4 n n { toList := [Value.int IntKind.i64 0, Value.int IntKind.i64 0, Value.int IntKind.i64 0, Value.int IntKind.i64 0] } 88 fun (b : Nat) (w2 : World) =>
   AlP w2 { toList := [Value.slice (some { block := b, off := 0 }) n.toNat n.toNat] } 87 fun (b : Nat) (w2 : World) => EnP w2 fun (w1 : World) => Post (some { block := b, off := 0 }, 0, Unit.unit) w1)) := by kernel_rfl
theorem rturn_vc (p : Option Addr) (f k o : Int) (w : World) (Post : Int → World → Prop) : (rxFn E0 (fun _ => []) 76 [.pointer p, .int .i64 f, .int .i64 k, .int .i64 o] w Post) = (
 ((!decide (f < 0)) = true → p.isSome = true) ∧
  ((!decide (f < 0)) = true → p.isSome = true) ∧
   LdP w (some !decide (f < 0)) (addP p 0) (El.one Sc.slice) fun (x : Option Addr × Nat × Nat) =>
    brP (decide (f < 0) || decide (f ≥ (↑x.snd.fst : Int))) (EnP w fun (w1 : World) => Post 2 w1)
     (p.isSome = true ∧
      p.isSome = true ∧
       LdP w none (addP p 0) (El.one Sc.slice) fun (x : Option Addr × Nat × Nat) =>
        (x.fst.isSome = true ∧ 0 ≤ f ∧ f < (↑x.snd.fst : Int)) ∧
         LdP w none (addP x.fst (f.toNat * 4)) (El.agg [Sc.int IntKind.i64, Sc.int IntKind.i64, Sc.int IntKind.i64, Sc.int IntKind.i64]) fun (x : Int × Int × Int × Int × Unit) =>
          True ∧
           AlP w { toList := [Value.int IntKind.i64 0, Value.int IntKind.i64 0, Value.int IntKind.i64 0, Value.int IntKind.i64 0] } 88 fun (b : Nat) (w2 : World) =>
            StP w2 (some { block := b, off := 0 })
             [Value.int IntKind.i64 (nextK x.fst x.snd.fst x.snd.snd.fst x.snd.snd.snd.fst k o), Value.int IntKind.i64 (nextO x.fst x.snd.fst x.snd.snd.fst x.snd.snd.snd.fst k o), Value.int IntKind.i64 0, Value.int IntKind.i64 0] fun (w2 : World) =>
             brP (nextE x.fst x.snd.fst x.snd.snd.fst x.snd.snd.snd.fst k o == 0)
              (p.isSome = true ∧
               p.isSome = true ∧
                LdP w2 none (addP p 0) (El.one Sc.slice) fun (x_1 : Option Addr × Nat × Nat) =>
                 LdP w2 none (some { block := b, off := 0 }) (El.agg [Sc.int IntKind.i64, Sc.int IntKind.i64, Sc.int IntKind.i64, Sc.int IntKind.i64]) fun (x_2 : Int × Int × Int × Int × Unit) =>
                  (x_1.fst.isSome = true ∧ 0 ≤ f ∧ f < (↑x_1.snd.fst : Int)) ∧
                   StP w2 (addP x_1.fst (f.toNat * 4)) [Value.int IntKind.i64 x_2.fst, Value.int IntKind.i64 x_2.snd.fst, Value.int IntKind.i64 x_2.snd.snd.fst, Value.int IntKind.i64 x_2.snd.snd.snd.fst] fun (w2 : World) =>
                    EnP w2 fun (w1 : World) => Post (nextE x.fst x.snd.fst x.snd.snd.fst x.snd.snd.snd.fst k o) w1)
              (EnP w2 fun (w1 : World) => Post (nextE x.fst x.snd.fst x.snd.snd.fst x.snd.snd.snd.fst k o) w1))) := by kernel_rfl
def rtake_vc_ann : Nat → Slots := (fun | 2 => [(8, Go.RX.El.one (Go.RX.Sc.int Go.IntKind.i64))] | _ => [])
theorem rtake_vc (p : Option Addr) (k o : Int) (w : World) (Post : Int × Int × Unit → World → Prop) : (rxFn E0 rtake_vc_ann 68 [.pointer p, .int .i64 k, .int .i64 o] w Post) = (
 ∃ (I : Nat → Int × Unit → World → Prop),
  (∃ (n : Nat), ∀ (w1 : World), Ext w w1 → I n (0, Unit.unit) w1) ∧
   ∀ (n : Nat) (s : Int × Unit) (w1 : World),
    I n s w1 →
     p.isSome = true ∧
      p.isSome = true ∧
       LdP w1 none (addP p 0) (El.one Sc.slice) fun (x : Option Addr × Nat × Nat) =>
        brP (decide (s.fst < (↑x.snd.fst : Int)))
         (p.isSome = true ∧
          p.isSome = true ∧
           LdP w1 none (addP p 0) (El.one Sc.slice) fun (x : Option Addr × Nat × Nat) =>
            (x.fst.isSome = true ∧ 0 ≤ s.fst ∧ s.fst < (↑x.snd.fst : Int)) ∧
             (addP x.fst (Int.toNat s.fst * 4)).isSome = true ∧
              LdP w1 none (addP (addP x.fst (Int.toNat s.fst * 4)) 0) (El.one (Sc.int IntKind.i64)) fun (x : Int) =>
               brP (x == 0)
                (CaP Tryz.prog 76 (Sh.el (El.one (Sc.int IntKind.i64))) [Value.pointer p, Value.int IntKind.i64 s.fst, Value.int IntKind.i64 k, Value.int IntKind.i64 o] w1 fun (x : Int) (w2 : World) =>
                 brP (x != 0) (EnP w2 fun (w1 : World) => Post (0, x, Unit.unit) w1) (EnP w2 fun (w1 : World) => Post (s.fst, 0, Unit.unit) w1))
                (∀ (w3 : World), Ext w1 w3 → ∃ (n' : Nat), n' < n ∧ I n' (addI IntKind.i64 s.fst 1, Unit.unit) w3))
         (EnP w1 fun (w1 : World) => Post (0, 12, Unit.unit) w1)) := by kernel_rfl
def rcount_vc_ann : Nat → Slots := (fun | 3 => [(5, Go.RX.El.one (Go.RX.Sc.int Go.IntKind.i64)), (6, Go.RX.El.one (Go.RX.Sc.int Go.IntKind.i64))] | _ => [])
theorem rcount_vc (p : Option Addr) (k : Int) (w : World) (Post : Int → World → Prop) : (rxFn E0 rcount_vc_ann 102 [.pointer p, .int .i64 k] w Post) = (
 ∃ (I : Nat → Int × Int × Unit → World → Prop),
  (∃ (n : Nat), ∀ (w1 : World), Ext w w1 → I n (0, 0, Unit.unit) w1) ∧
   ∀ (n : Nat) (s : Int × Int × Unit) (w1 : World),
    I n s w1 →
     p.isSome = true ∧
      p.isSome = true ∧
       LdP w1 none (addP p 0) (El.one Sc.slice) fun (x : Option Addr × Nat × Nat) =>
        brP (decide (s.snd.fst < (↑x.snd.fst : Int)))
         (p.isSome = true ∧
          p.isSome = true ∧
           LdP w1 none (addP p 0) (El.one Sc.slice) fun (x : Option Addr × Nat × Nat) =>
            (x.fst.isSome = true ∧ 0 ≤ s.snd.fst ∧ s.snd.fst < (↑x.snd.fst : Int)) ∧
             (addP x.fst (Int.toNat s.snd.fst * 4)).isSome = true ∧
              LdP w1 none (addP (addP x.fst (Int.toNat s.snd.fst * 4)) 0) (El.one (Sc.int IntKind.i64)) fun (x : Int) =>
               brP (x == k) (∀ (w3 : World), Ext w1 w3 → ∃ (n' : Nat), n' < n ∧ I n' (addI IntKind.i64 s.fst 1, addI IntKind.i64 s.snd.fst 1, Unit.unit) w3)
                (∀ (w3 : World), Ext w1 w3 → ∃ (n' : Nat), n' < n ∧ I n' (s.fst, addI IntKind.i64 s.snd.fst 1, Unit.unit) w3))
         (EnP w1 fun (w1 : World) => Post s.fst w1)) := by kernel_rfl
end Go.Proofs.YtkldededdgpmbaaGreat.D
namespace Go.Proofs.YtkldededdgpmbaaGreat.D
set_option linter.unusedSimpArgs false
set_option linter.unusedVariables false
set_option maxRecDepth 100000
open Go.RX
/-! ### The document's pool -/
theorem rdf_flat {w : World} {b : Nat} {e : List Sc} {xs : List (ScsT e)} {rest : List Value} (h : Blk w b (flat (.agg e) xs ++ rest)) {i : Nat} {x : ScsT e} (hx : xs[i]? = some x) {j : Nat} {s : Sc} {y : s.T} (hj : j < e.length) (hy : (scsEmb e x)[j]? = some (s.emb y)) :
    rdAt w (addP (addP (some ⟨b, 0, none⟩) (i * e.length)) j) (.one s) y := rdAt_fld (rd_flat (e := .agg e) h hx) hj hy
section
variable {D G : List Nat} {w0 w : World} {L : List (Nat × List Value)}
theorem rpnew_at (H : AtD D G w0 w L) (n : Int) {K : Option Addr × Int × Unit → World → Prop} (hb : n < 1 ∨ n > 4096 → ∀ bp w1, AtD D G w0 w1 ((bp, [.slice none 0 0]) :: L) → K (some ⟨bp, 0, none⟩, 1, ()) w1)
    (hg : 1 ≤ n → n ≤ 4096 → ∀ bp bf w1, AtD D G w0 w1 ((bp, [.slice (some ⟨bf, 0, none⟩) n.toNat n.toNat]) :: (bf, flat eD (List.replicate n.toNat zD) ++ []) :: L) → K (some ⟨bp, 0, none⟩, 0, ()) w1) :
    CaP Tryz.prog 37 (.tup [.one .ptr, .one (.int .i64)]) [.int .i64 n] w K := by
  refine CaP.go H fun w1 H => rxFn_ok (C := E0) (ann := fun _ => []) (Eq.mpr (rpnew_vc n w1 K) ?_)
  refine brP_intro (fun c => AlP.go H fun bp w2 H => EnP.go H fun w2 H => hb (by simpa using c) bp w2 H) (fun c => ?_)
  have h1 : 1 ≤ n ∧ n ≤ 4096 := by simp only [Bool.or_eq_false_iff, decide_eq_false_iff_not] at c; omega
  refine MkP.go H rfl (by omega) (by omega) (by omega) (by omega) fun bf w2 H => ?_
  rw [zD_flat] at H
  exact AlP.go H fun bp w3 H => EnP.go H fun w4 H => hg h1.1 h1.2 bp bf w4 H
end
theorem rturn_ok {w : World} {bp bf n c : Nat} {ds : List DT} {rest : List Value} (hp : Blk w bp [.slice (some ⟨bf, 0, none⟩) n c]) (hf : Blk w bf (flat eD ds ++ rest)) (hne : bp ≠ bf) (hn : n = ds.length) (hpos : 0 < n) (f : Int) (k o : Int) :
    CallsR Tryz.prog 76 (.el (.one (.int .i64))) [.pointer (some ⟨bp, 0, none⟩), .int .i64 f, .int .i64 k, .int .i64 o] w
      (fun e w' => e = chE ds f (turnG k o) ∧ Blk w' bf (flat eD (chL ds f (turnG k o)) ++ rest) ∧ Fr [bf] w w') := by
  subst hn
  refine rxFn_ok (C := E0) (ann := fun _ => []) (Eq.mpr (rturn_vc _ f k o w _) ?_)
  have H := At.start1 hf
  have hp' : bp ∉ [bf] := by simpa using hne
  refine ⟨fun _ => rfl, fun _ => rfl, LdP.oldA H hp hp' rfl (brP_intro (fun c1 => EnP.go H fun w1 H => ?_) (fun c1 => ?_))⟩
  · have h1 : f < 0 ∨ f ≥ ds.length := by simpa using c1
    exact ⟨(chE_out (by omega) h1 _).symm, by rw [chL_out h1]; exact H.get (i := 0) rfl, H.fr⟩
  · have h1 : 0 ≤ f ∧ f < ds.length := by simp only [Bool.or_eq_false_iff, decide_eq_false_iff_not] at c1; omega
    have hlt : f.toNat < ds.length := by omega
    have hget : ds[f.toNat]? = some ds[f.toNat] := List.getElem?_eq_getElem hlt
    have hgd : ds.getD f.toNat zD = ds[f.toNat] := by rw [List.getD_eq_getElem?_getD, hget]; rfl
    have hE := chE_in h1 (turnG k o)
    have hL := chL_in h1 (turnG k o)
    rw [hgd] at hE hL
    generalize hd : ds[f.toNat] = d at *
    refine ⟨rfl, rfl, LdP.oldA H hp hp' rfl ⟨⟨rfl, h1.1, h1.2⟩, LdP.of d (rd_flat (H.get (i := 0) rfl) hget) ⟨trivial, ?_⟩⟩⟩
    refine AlP.go H fun b w2 H => StP.all 0 H rfl rfl rfl fun w2 H => brP_intro (fun c2 => ⟨rfl, rfl, LdP.oldA H hp hp' rfl (LdP.at 0 H rfl rfl ⟨⟨rfl, h1.1, h1.2⟩, ?_⟩)⟩) (fun c2 => EnP.go H fun w3 H => ?_)
    · have c2' : ((turnG k o) d).2 = 0 := beq_iff_eq.1 c2
      refine StP.flat (e := eD) 1 H (xs := ds) (rest := rest) ((turnG k o) d).1 rfl rfl rfl hlt fun w3 H => EnP.go H fun w4 H => ?_
      exact ⟨hE.symm, by rw [hL, if_pos c2']; exact H.get (i := 1) rfl, H.fr⟩
    · have c2' : ¬ ((turnG k o) d).2 = 0 := beq_eq_false_iff_ne.1 c2
      exact ⟨hE.symm, by rw [hL, if_neg c2']; exact H.get (i := 1) rfl, H.fr⟩
theorem rtake_ok {w : World} {bp bf n c : Nat} {ds : List DT} {rest : List Value} (hp : Blk w bp [.slice (some ⟨bf, 0, none⟩) n c]) (hf : Blk w bf (flat eD ds ++ rest)) (hne : bp ≠ bf) (hn : n = ds.length) (hpos : 0 < n) (hlen : n ≤ 4096) (k o : Int) :
    CallsR Tryz.prog 68 (.tup [.one (.int .i64), .one (.int .i64)]) [.pointer (some ⟨bp, 0, none⟩), .int .i64 k, .int .i64 o] w
      (fun v w' => v = (takeF ds k o, takeE ds k o, ()) ∧ Blk w' bf (flat eD (takeL ds k o) ++ rest) ∧ Fr [bf] w w') := by
  subst hn
  refine rxFn_ok (C := E0) (ann := rtake_vc_ann) (Eq.mpr (rtake_vc _ k o w _) ?_)
  have hp' : bp ∉ [bf] := by simpa using hne
  refine ⟨fun n s w' => ∃ i : Nat, s.1 = i ∧ n + i = ds.length ∧ At [bf] w w' [(bf, flat eD ds ++ rest)] ∧ ∀ (j : Nat) d, j < i → ds[j]? = some d → d.1 ≠ 0, ⟨ds.length, fun w1 h1 => ⟨0, rfl, rfl, (At.start1 hf).ext h1, fun j d hj => absurd hj (by omega)⟩⟩, ?_⟩
  rintro n ⟨i', u⟩ w1 ⟨i, hi, hni, H, hj⟩
  simp only at hi
  subst hi
  refine ⟨rfl, rfl, LdP.oldA H hp hp' rfl (brP_intro (fun c => ?_) (fun c => ?_))⟩
  · have hlt : i < ds.length := by simp only [decide_eq_true_eq] at c; omega
    have hget : ds[i]? = some ds[i] := List.getElem?_eq_getElem hlt
    generalize hd : ds[i] = d at hget
    refine ⟨rfl, rfl, LdP.oldA H hp hp' rfl ⟨⟨rfl, Int.natCast_nonneg i, by simpa using c⟩, rfl, LdP.of d.1 (rdf_flat (e := sD) (H.get (i := 0) rfl) hget (by decide) rfl) (brP_intro (fun c2 => ?_) (fun c2 => ?_))⟩⟩
    · have hfr := free_some hget (by simpa using c2) hj
      refine CaP.mod1 H 0 rfl (fun w8 H => rturn_ok (H.old hp hp') (H.get (i := 0) rfl) hne rfl hpos _ k o) fun w8 H => ?_
      have eL : takeL ds k o = chL ds i (turnG k o) := by unfold takeL; rw [hfr]
      refine brP_intro (fun c => EnP.go H fun w9 H => ?_) (fun c => EnP.go H fun w9 H => ?_)
      · have hc : ¬ chE ds (i : Nat) (turnG k o) = 0 := by simpa using c
        refine ⟨?_, by rw [eL]; exact H.get (i := 0) rfl, H.fr⟩
        unfold takeF takeE; rw [hfr, if_neg (by omega)]; simp only [if_neg hc]
      · have hc : chE ds (i : Nat) (turnG k o) = 0 := by simpa using c
        refine ⟨?_, by rw [eL]; exact H.get (i := 0) rfl, H.fr⟩
        unfold takeF takeE; rw [hfr, if_neg (by omega)]; simp [hc]
    · refine fun w3 h3 => ⟨n - 1, by omega, i + 1, by rw [addI_i64 (by omega) (by omega)]; rfl, by omega, H.ext h3, fun j d' hji hd' => ?_⟩
      by_cases e : j = i
      · subst e; rw [hget] at hd'; cases hd'; simpa using c2
      · exact hj j d' (by omega) hd'
  · have hfr : freeI ds = none := free_none fun j d hd => hj j d (by have := (List.getElem?_eq_some_iff.1 hd).1; simp only [decide_eq_false_iff_not] at c; omega) hd
    refine EnP.go H fun w9 H => ⟨?_, ?_, H.fr⟩
    · unfold takeF takeE; rw [hfr, if_neg (by omega)]
    · have : takeL ds k o = ds := by unfold takeL; rw [hfr]
      rw [this]; exact H.get (i := 0) rfl
theorem rcount_ok {w : World} {bp bf n c : Nat} {ds : List DT} {rest : List Value} (hp : Blk w bp [.slice (some ⟨bf, 0, none⟩) n c]) (hf : Blk w bf (flat eD ds ++ rest)) (hn : n = ds.length) (hlen : n ≤ 4096) (v : Int) :
    CallsR Tryz.prog 102 (.el (.one (.int .i64))) [.pointer (some ⟨bp, 0, none⟩), .int .i64 v] w (fun x w' => x = (cntL ds v : Int) ∧ Ext w w') := by
  subst hn
  refine rxFn_ok (C := E0) (ann := rcount_vc_ann) (Eq.mpr (rcount_vc _ v w _) ?_)
  refine ⟨fun n s w' => ∃ i : Nat, s.1 = (cntL (ds.take i) v : Nat) ∧ s.2.1 = i ∧ n + i = ds.length ∧ At [] w w' [], ⟨ds.length, fun w1 h1 => ⟨0, rfl, rfl, rfl, (At.start [] w).ext h1⟩⟩, ?_⟩
  rintro n ⟨a, i', u⟩ w1 ⟨i, ha, hi, hni, H⟩
  simp only at hi ha
  subst hi; subst ha
  refine ⟨rfl, rfl, LdP.oldA H hp (by simp) rfl (brP_intro (fun c => ?_) (fun c => ?_))⟩
  · have hlt : i < ds.length := by simp only [decide_eq_true_eq] at c; omega
    have hget : ds[i]? = some ds[i] := List.getElem?_eq_getElem hlt
    generalize hd : ds[i] = d at hget
    have hle : cntL (ds.take i) v ≤ 4096 := Nat.le_trans List.countP_le_length (by rw [List.length_take]; omega)
    have e1 : addI .i64 ((i : Nat) : Int) 1 = ((i + 1 : Nat) : Int) := by rw [addI_i64 (by omega) (by omega)]; rfl
    have e2 : addI .i64 ((cntL (ds.take i) v : Nat) : Int) 1 = ((cntL (ds.take i) v + 1 : Nat) : Int) := by rw [addI_i64 (by omega) (by omega)]; rfl
    refine ⟨rfl, rfl, LdP.oldA H hp (by simp) rfl ⟨⟨rfl, Int.natCast_nonneg i, by simpa using c⟩, rfl, LdP.of d.1 (rdf_flat (e := sD) (H.old hf (by simp)) hget (by decide) rfl) (brP_intro (fun c2 => ?_) (fun c2 => ?_))⟩⟩
    · exact fun w3 h3 => ⟨n - 1, by omega, i + 1, by rw [e2, cnt_take hget, if_pos (by simpa using c2)], e1, by omega, H.ext h3⟩
    · exact fun w3 h3 => ⟨n - 1, by omega, i + 1, by rw [cnt_take hget, if_neg (by simpa using c2)]; rfl, e1, by omega, H.ext h3⟩
  · have hi : ds.length ≤ i := by simp only [decide_eq_false_iff_not] at c; omega
    refine EnP.go H fun w9 H => ⟨by rw [List.take_of_length_le hi], H.all⟩
end Go.Proofs.YtkldededdgpmbaaGreat.D
namespace Go.Proofs.YtkldededdgpmbaaGreat.D
set_option linter.unusedSimpArgs false
set_option linter.unusedVariables false
set_option maxRecDepth 100000
open Go.RX
noncomputable def E3 : Cfg Tryz.prog := { E0 with quiet := [32, 26, 102, 33] }
end Go.Proofs.YtkldededdgpmbaaGreat.D
namespace Go.Proofs.YtkldededdgpmbaaGreat.D
set_option linter.unusedSimpArgs false
set_option linter.unusedVariables false
set_option maxRecDepth 100000
open Go.RX
section
variable {D G : List Nat} {w0 w : World} {L : List (Nat × List Value)}
theorem turn_at (H : AtD D G w0 w L) (i j : Nat) {bp bf n c : Nat} {ds : List DT} {rest : List Value} (hp : L[i]? = some (bp, [.slice (some ⟨bf, 0, none⟩) n c])) (hf : L[j]? = some (bf, flat eD ds ++ rest)) (hij : i ≠ j) (hn : n = ds.length) (hpos : 0 < n) (hle : n ≤ 4096) (f y o : Int) {K : Int → World → Prop}
    (k : ∀ w2, AtD D G w0 w2 (L.set j (bf, flat eD (chL ds f (turnG y o)) ++ rest)) → K (chE ds f (turnG y o)) w2) : CaP Tryz.prog 65 (.el (.one (.int .i64))) [.pointer (some ⟨bp, 0, none⟩), .int .i64 f, .int .i64 y, .int .i64 o] w K := by
  subst hn
  exact CaP.mod1 H j hf (fun w1 H => turn_ok (H.get hp) (H.get hf) (H.ne hp hf hij) hle f y o) k
theorem take_at (H : AtD D G w0 w L) (i j : Nat) {bp bf n c : Nat} {ds : List DT} {rest : List Value} (hp : L[i]? = some (bp, [.slice (some ⟨bf, 0, none⟩) n c])) (hf : L[j]? = some (bf, flat eD ds ++ rest)) (hij : i ≠ j) (hn : n = ds.length) (hpos : 0 < n) (hle : n ≤ 4096) (y o : Int) {K : Int × Int × Unit → World → Prop}
    (k : ∀ w2, AtD D G w0 w2 (L.set j (bf, flat eD (takeL ds y o) ++ rest)) → K (takeF ds y o, takeE ds y o, ()) w2) : CaP Tryz.prog 101 (.tup [.one (.int .i64), .one (.int .i64)]) [.pointer (some ⟨bp, 0, none⟩), .int .i64 y, .int .i64 o] w K := by
  subst hn
  exact CaP.mod1 H j hf (fun w1 H => take_ok (H.get hp) (H.get hf) (H.ne hp hf hij) rfl hle y o) k
theorem rturn_at (H : AtD D G w0 w L) (i j : Nat) {bp bf n c : Nat} {ds : List DT} {rest : List Value} (hp : L[i]? = some (bp, [.slice (some ⟨bf, 0, none⟩) n c])) (hf : L[j]? = some (bf, flat eD ds ++ rest)) (hij : i ≠ j) (hn : n = ds.length) (hpos : 0 < n) (hle : n ≤ 4096) (f y o : Int) {K : Int → World → Prop}
    (k : ∀ w2, AtD D G w0 w2 (L.set j (bf, flat eD (chL ds f (turnG y o)) ++ rest)) → K (chE ds f (turnG y o)) w2) : CaP Tryz.prog 76 (.el (.one (.int .i64))) [.pointer (some ⟨bp, 0, none⟩), .int .i64 f, .int .i64 y, .int .i64 o] w K := by
  subst hn
  exact CaP.mod1 H j hf (fun w1 H => rturn_ok (H.get hp) (H.get hf) (H.ne hp hf hij) rfl hpos f y o) k
theorem rtake_at (H : AtD D G w0 w L) (i j : Nat) {bp bf n c : Nat} {ds : List DT} {rest : List Value} (hp : L[i]? = some (bp, [.slice (some ⟨bf, 0, none⟩) n c])) (hf : L[j]? = some (bf, flat eD ds ++ rest)) (hij : i ≠ j) (hn : n = ds.length) (hpos : 0 < n) (hle : n ≤ 4096) (y o : Int) {K : Int × Int × Unit → World → Prop}
    (k : ∀ w2, AtD D G w0 w2 (L.set j (bf, flat eD (takeL ds y o) ++ rest)) → K (takeF ds y o, takeE ds y o, ()) w2) : CaP Tryz.prog 68 (.tup [.one (.int .i64), .one (.int .i64)]) [.pointer (some ⟨bp, 0, none⟩), .int .i64 y, .int .i64 o] w K := by
  subst hn
  exact CaP.mod1 H j hf (fun w1 H => rtake_ok (H.get hp) (H.get hf) (H.ne hp hf hij) rfl hpos hle y o) k
theorem len_q (H : AtD D G w0 w L) (i : Nat) {bp n c : Nat} {a : Option Addr} (hp : L[i]? = some (bp, [.slice a n c])) : QCalls Tryz.prog 32 [.pointer (some ⟨bp, 0, none⟩)] w (.int .i64 (n : Int)) :=
  QCalls.of (s := .el (.one (.int .i64))) fun w' h => len_ok ((H.get hp).ext h)
theorem count_q (H : AtD D G w0 w L) (i j : Nat) {bp bf n c : Nat} {ds : List DT} {rest : List Value} (hp : L[i]? = some (bp, [.slice (some ⟨bf, 0, none⟩) n c])) (hf : L[j]? = some (bf, flat eD ds ++ rest)) (hn : n = ds.length) (hle : n ≤ 4096) (v : Int) :
    QCalls Tryz.prog 26 [.pointer (some ⟨bp, 0, none⟩), .int .i64 v] w (.int .i64 (cntL ds v : Nat)) :=
  QCalls.of (s := .el (.one (.int .i64))) fun w' h => count_ok ((H.get hp).ext h) ((H.get hf).ext h) hn hle v
theorem rcount_q (H : AtD D G w0 w L) (i j : Nat) {bp bf n c : Nat} {ds : List DT} {rest : List Value} (hp : L[i]? = some (bp, [.slice (some ⟨bf, 0, none⟩) n c])) (hf : L[j]? = some (bf, flat eD ds ++ rest)) (hn : n = ds.length) (hle : n ≤ 4096) (v : Int) :
    QCalls Tryz.prog 102 [.pointer (some ⟨bp, 0, none⟩), .int .i64 v] w (.int .i64 (cntL ds v : Nat)) :=
  QCalls.of (s := .el (.one (.int .i64))) fun w' h => rcount_ok ((H.get hp).ext h) ((H.get hf).ext h) hn hle v
theorem of_q (H : AtD D G w0 w L) (i j : Nat) {bp bf n c : Nat} {ds : List DT} {rest : List Value} (hp : L[i]? = some (bp, [.slice (some ⟨bf, 0, none⟩) n c])) (hf : L[j]? = some (bf, flat eD ds ++ rest)) (hn : n = ds.length) (f : Int) :
    QCalls Tryz.prog 33 [.pointer (some ⟨bp, 0, none⟩), .int .i64 f] w ((Sh.tup [eD, .one .bool]).emb (ofV ds f, ofB ds f, ())) := by
  subst hn
  exact QCalls.of (s := .tup [eD, .one .bool]) fun w' h => pof_ok ((H.get hp).ext h) ((H.get hf).ext h) f
end
theorem own_len (ds : List DT) (v : Int) : (ownL ds v).length ≤ ds.length := by
  refine Nat.le_trans (List.length_filter_le _ _) ?_
  simp
def kD0 : List DT := List.replicate (2 : Int).toNat zD
end Go.Proofs.YtkldededdgpmbaaGreat.D
