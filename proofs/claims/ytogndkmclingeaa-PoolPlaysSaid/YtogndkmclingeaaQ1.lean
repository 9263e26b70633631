import Derived.Test.YtogndkmclingeaaLst
import Derived.Test.YtogndkmclingeaaNum
import Derived.Test.YtogndkmclingeaaAt
namespace Go.Proofs.Ytogndkmclingeaa
set_option linter.unusedSimpArgs false
set_option linter.unusedVariables false
open Go.RX
noncomputable def D0 : Cfg Try.prog := { C3 with share := true }
theorem leads_vc (a : Int) (w : World) (Post : Option Addr × Nat × Nat → World → Prop) : (rxFn D0 (fun _ => []) 46 [.int .i64 a] w Post) = (
 ∀ (w1 : World),
  Ext w w1 →
   AlP (w1.alloc (Obj.map { toList := [] } 0)) { toList := [Value.int IntKind.i64 1, Value.int IntKind.i64 2, Value.int IntKind.i64 3, Value.int IntKind.i64 4] } 3 fun (b : Nat) (w2 : World) =>
    ∀ (w1_1 : World),
     Ext w2 w1_1 →
      ∃ (r : Nat),
       ∃ (es : Array MapEntry),
        ∃ (clock : Nat),
         some w1.heap.size = some r ∧
          MapO w1_1 r es clock ∧
           mUp w1_1 r IntKind.i64 0 (Value.slice (some { block := b, off := 0 }) 4 4) es clock fun (w2 : World) =>
            AlP w2 { toList := [Value.int IntKind.i64 0, Value.int IntKind.i64 2, Value.int IntKind.i64 3, Value.int IntKind.i64 4] } 3 fun (b : Nat) (w2 : World) =>
             ∀ (w1_2 : World),
              Ext w2 w1_2 →
               ∃ (r : Nat),
                ∃ (es : Array MapEntry),
                 ∃ (clock : Nat),
                  some w1.heap.size = some r ∧
                   MapO w1_2 r es clock ∧
                    mUp w1_2 r IntKind.i64 1 (Value.slice (some { block := b, off := 0 }) 4 4) es clock fun (w2 : World) =>
                     AlP w2 { toList := [Value.int IntKind.i64 5, Value.int IntKind.i64 0] } 3 fun (b : Nat) (w2 : World) =>
                      ∀ (w1_3 : World),
                       Ext w2 w1_3 →
                        ∃ (r : Nat),
                         ∃ (es : Array MapEntry),
                          ∃ (clock : Nat),
                           some w1.heap.size = some r ∧
                            MapO w1_3 r es clock ∧
                             mUp w1_3 r IntKind.i64 2 (Value.slice (some { block := b, off := 0 }) 2 2) es clock fun (w2 : World) =>
                              AlP w2 { toList := [Value.int IntKind.i64 5, Value.int IntKind.i64 0] } 3 fun (b : Nat) (w2 : World) =>
                               ∀ (w1_4 : World),
                                Ext w2 w1_4 →
                                 ∃ (r : Nat),
                                  ∃ (es : Array MapEntry),
                                   ∃ (clock : Nat),
                                    some w1.heap.size = some r ∧
                                     MapO w1_4 r es clock ∧
                                      mUp w1_4 r IntKind.i64 3 (Value.slice (some { block := b, off := 0 }) 2 2) es clock fun (w2 : World) =>
                                       AlP w2 { toList := [Value.int IntKind.i64 5, Value.int IntKind.i64 0, Value.int IntKind.i64 4] } 3 fun (b : Nat) (w2 : World) =>
                                        ∀ (w1_5 : World),
                                         Ext w2 w1_5 →
                                          ∃ (r : Nat),
                                           ∃ (es : Array MapEntry),
                                            ∃ (clock : Nat),
                                             some w1.heap.size = some r ∧
                                              MapO w1_5 r es clock ∧
                                               mUp w1_5 r IntKind.i64 4 (Value.slice (some { block := b, off := 0 }) 3 3) es clock fun (w2 : World) =>
                                                AlP w2 { toList := [Value.int IntKind.i64 0] } 3 fun (b : Nat) (w2 : World) =>
                                                 ∀ (w1_6 : World),
                                                  Ext w2 w1_6 →
                                                   ∃ (r : Nat),
                                                    ∃ (es : Array MapEntry),
                                                     ∃ (clock : Nat),
                                                      some w1.heap.size = some r ∧
                                                       MapO w1_6 r es clock ∧
                                                        mUp w1_6 r IntKind.i64 5 (Value.slice (some { block := b, off := 0 }) 1 1) es clock fun (w2 : World) =>
                                                         ∃ (x : Option Addr × Nat × Nat),
                                                          lookO w2 (some w1.heap.size) IntKind.i64 a (Value.slice none 0 0) (Value.slice x.fst x.snd.fst x.snd.snd) ∧ EnP w2 fun (w1 : World) => Post (x.fst, x.snd.fst, x.snd.snd) w1) := by kernel_rfl
def can_vc_ann : Nat → Slots := (fun | 2 => [(10, Go.RX.El.one (Go.RX.Sc.int Go.IntKind.i64))] | _ => [])
theorem can_vc (a b : Int) (w : World) (Post : Bool → World → Prop) : (rxFn D0 can_vc_ann 41 [.int .i64 a, .int .i64 b] w Post) = (
 CaP Try.prog 46 (Sh.el (El.one Sc.slice)) [Value.int IntKind.i64 a] w fun (x : Option Addr × Nat × Nat) (w2 : World) =>
  ∀ (x_1 : Int),
   x_1 = (↑x.snd.fst : Int) →
    ∃ (I : Nat → Int × Unit → World → Prop),
     (∃ (n : Nat), ∀ (w1 : World), Ext w2 w1 → I n (0, Unit.unit) w1) ∧
      ∀ (n : Nat) (s : Int × Unit) (w1 : World),
       I n s w1 →
        brP (decide (s.fst < x_1))
         ((x.fst.isSome = true ∧ 0 ≤ s.fst ∧ s.fst < (↑x.snd.fst : Int)) ∧
          LdP w1 none (addP x.fst (Int.toNat s.fst * 1)) (El.one (Sc.int IntKind.i64)) fun (x : Int) =>
           brP (x == b) (EnP w1 fun (w1 : World) => Post true w1) (∀ (x : Int), x = addI IntKind.i64 s.fst 1 → ∀ (w3 : World), Ext w1 w3 → ∃ (n' : Nat), n' < n ∧ I n' (x, Unit.unit) w3))
         (EnP w1 fun (w1 : World) => Post false w1)) := by kernel_rfl
theorem rleads_vc (a b : Int) (w : World) (Post : Bool → World → Prop) : (rxFn D0 (fun _ => []) 44 [.int .i64 a, .int .i64 b] w Post) = (
 brP (a == 0) (EnP w fun (w1 : World) => Post (decide (b ≥ 1) && decide (b ≤ 4)) w1)
  (brP (a == 1) (EnP w fun (w1 : World) => Post (b == 0 || decide (b ≥ 2) && decide (b ≤ 4)) w1)
   (brP (a == 2) (brP (a == 2) (EnP w fun (w1 : World) => Post (b == 5 || b == 0) w1) (brP (a == 4) (EnP w fun (w1 : World) => Post (b == 5 || b == 0 || b == 4) w1) (EnP w fun (w1 : World) => Post (b == 0) w1)))
    (brP (a == 3) (EnP w fun (w1 : World) => Post (b == 5 || b == 0) w1) (brP (a == 4) (EnP w fun (w1 : World) => Post (b == 5 || b == 0 || b == 4) w1) (EnP w fun (w1 : World) => Post (b == 0) w1)))))) := by kernel_rfl
theorem within_vc (n m : Int) (w : World) (Post : Bool → World → Prop) : (rxFn D0 (fun _ => []) 45 [.int .i64 n, .int .i64 m] w Post) = (
 EnP w fun (w1 : World) => Post (decide (n ≥ 0) && decide (n ≤ m)) w1) := by kernel_rfl
theorem mUp_new {w : World} {r : Nat} {k : IntKind} {n : Int} {val : Value} {es : Array MapEntry} {clock : Nat} {K : World → Prop} (h : Instr.findNow (.int k) (.int k n) es.toList 0 = some none)
    (hk : K (w.putObj r (.map (es.push { key := .int k n, val, born := clock }) (clock + 1)))) : mUp w r k n val es clock K := by
  unfold mUp
  rw [h]; exact hk
/-- A key that is new, with a slice that is new. -/
theorem lit_step {w0 wA wB : World} {r : Nat} {es : Array MapEntry} {clock : Nat} {l : List Value} {t : TypeId} {n : Int} {bs : List (Nat × List Value)} {val : Value} {K : World → Prop}
    (hE : Ext w0 wA) (hr : w0.heap.size ≤ r) (hm : MapO wA r es clock) (hb : ∀ x ∈ bs, Blk wA x.1 x.2 ∧ x.1 ≠ r) (h2 : Ext (wA.alloc (.cells ⟨l⟩ t)) wB)
    (hf : Instr.findNow (.int .i64) (.int .i64 n) es.toList 0 = some none)
    (k : ∀ w2, Ext w0 w2 → MapO w2 r (es.push { key := .int .i64 n, val, born := clock }) (clock + 1) → (∀ x ∈ (wA.heap.size, l) :: bs, Blk w2 x.1 x.2 ∧ x.1 ≠ r) → K w2) :
    ∃ r' es' clock', some r = some r' ∧ MapO wB r' es' clock' ∧ mUp wB r' .i64 n val es' clock' K := by
  have hm' : wA.heap[r]? = some (.map es clock) := hm
  have hlt : r < wA.heap.size := (Array.getElem?_eq_some_iff.1 hm').1
  have e2 : Ext wA wB := (Ext.alloc wA _).trans h2
  have hmB : wB.heap[r]? = some (.map es clock) := e2.obj hm'
  refine ⟨r, es, clock, rfl, hmB, mUp_new hf (k _ ((hE.trans e2).putObj hr _) ?_ ?_)⟩
  · exact putObj_self (Array.getElem?_eq_some_iff.1 hmB).1
  · intro x hx
    rcases List.mem_cons.1 hx with rfl | hx
    · have : wA.heap.size ≠ r := by omega
      exact ⟨((Blk.new wA l t).ext h2).putObj this _, this⟩
    · exact ⟨((hb x hx).1.ext e2).putObj (hb x hx).2 _, (hb x hx).2⟩
/-- Which kinds a kind can change to. -/
def leadsL (a : Int) : List Int := if a = 0 then [1, 2, 3, 4] else if a = 1 then [0, 2, 3, 4] else if a = 2 then [5, 0] else if a = 3 then [5, 0] else if a = 4 then [5, 0, 4] else if a = 5 then [0] else []
theorem leads_ok (a : Int) (w : World) : CallsR Try.prog 46 (.el (.one .slice)) [.int .i64 a] w (fun r w' => Sl w' eI r.1 (leadsL a) ∧ r.2.1 = (leadsL a).length ∧ Ext w w') := by
  refine rxFn_ok (C := D0) (ann := fun _ => []) (Eq.mpr (leads_vc a w _) ?_)
  intro w1 h1 w2 h2 w3 h3
  have m0 : MapO w2 w1.heap.size #[] 0 := h2.obj (alloc_self w1 _)
  have step : ∀ {W : World} {bs : List (Nat × List Value)} {r : Nat}, (∀ x ∈ bs, Blk W x.1 x.2 ∧ x.1 ≠ r) → ∀ {W' : World}, Ext W W' → ∀ x ∈ bs, Blk W' x.1 x.2 ∧ x.1 ≠ r :=
    fun h _ e x hx => ⟨(h x hx).1.ext e, (h x hx).2⟩
  refine lit_step (bs := []) ((h1.allocd _).trans h2) h1.size m0 (fun x hx => by cases hx) h3 rfl fun W0 E0 M0 B0 w4 h4 w5 h5 => ?_
  refine lit_step (E0.trans h4) h1.size (h4.obj M0) (step B0 h4) h5 rfl fun W1 E1 M1 B1 w6 h6 w7 h7 => ?_
  refine lit_step (E1.trans h6) h1.size (h6.obj M1) (step B1 h6) h7 rfl fun W2 E2 M2 B2 w8 h8 w9 h9 => ?_
  refine lit_step (E2.trans h8) h1.size (h8.obj M2) (step B2 h8) h9 rfl fun W3 E3 M3 B3 w10 h10 w11 h11 => ?_
  refine lit_step (E3.trans h10) h1.size (h10.obj M3) (step B3 h10) h11 rfl fun W4 E4 M4 B4 w12 h12 w13 h13 => ?_
  refine lit_step (E4.trans h12) h1.size (h12.obj M4) (step B4 h12) h13 rfl fun W5 E5 M5 B5 => ?_
  have b0 := (B5 (w2.heap.size, [Value.int .i64 1, Value.int .i64 2, Value.int .i64 3, Value.int .i64 4]) (by simp)).1
  have b1 := (B5 (w4.heap.size, [Value.int .i64 0, Value.int .i64 2, Value.int .i64 3, Value.int .i64 4]) (by simp)).1
  have b2 := (B5 (w6.heap.size, [Value.int .i64 5, Value.int .i64 0]) (by simp)).1
  have b3 := (B5 (w8.heap.size, [Value.int .i64 5, Value.int .i64 0]) (by simp)).1
  have b4 := (B5 (w10.heap.size, [Value.int .i64 5, Value.int .i64 0, Value.int .i64 4]) (by simp)).1
  have b5 := (B5 (w12.heap.size, [Value.int .i64 0]) (by simp)).1
  have fin : ∀ (x : Option Addr × Nat × Nat), lookO W5 (some w1.heap.size) .i64 a (.slice none 0 0) (.slice x.1 x.2.1 x.2.2) → Sl W5 eI x.1 (leadsL a) → x.2.1 = (leadsL a).length →
      ∃ x : Option Addr × Nat × Nat, lookO W5 (some w1.heap.size) .i64 a (.slice none 0 0) (.slice x.1 x.2.1 x.2.2) ∧ ∀ w14, Ext W5 w14 → Sl w14 eI (x.1, x.2.1, x.2.2).1 (leadsL a) ∧ (x.1, x.2.1, x.2.2).2.1 = (leadsL a).length ∧ Ext w w14 :=
    fun x hl hs hn => ⟨x, hl, fun w14 h14 => ⟨hs.ext h14, hn, E5.trans h14⟩⟩
  by_cases c0 : a = 0
  · subst c0
    exact fin (some ⟨w2.heap.size, 0, none⟩, 4, 4) ⟨_, _, _, rfl, M5, rfl⟩ (Sl.of_blk b0 rfl) rfl
  by_cases c1 : a = 1
  · subst c1
    exact fin (some ⟨w4.heap.size, 0, none⟩, 4, 4) ⟨_, _, _, rfl, M5, rfl⟩ (Sl.of_blk b1 rfl) rfl
  by_cases c2 : a = 2
  · subst c2
    exact fin (some ⟨w6.heap.size, 0, none⟩, 2, 2) ⟨_, _, _, rfl, M5, rfl⟩ (Sl.of_blk b2 rfl) rfl
  by_cases c3 : a = 3
  · subst c3
    exact fin (some ⟨w8.heap.size, 0, none⟩, 2, 2) ⟨_, _, _, rfl, M5, rfl⟩ (Sl.of_blk b3 rfl) rfl
  by_cases c4 : a = 4
  · subst c4
    exact fin (some ⟨w10.heap.size, 0, none⟩, 3, 3) ⟨_, _, _, rfl, M5, rfl⟩ (Sl.of_blk b4 rfl) rfl
  by_cases c5 : a = 5
  · subst c5
    exact fin (some ⟨w12.heap.size, 0, none⟩, 1, 1) ⟨_, _, _, rfl, M5, rfl⟩ (Sl.of_blk b5 rfl) rfl
  have hL : leadsL a = [] := by
    unfold leadsL
    rw [if_neg c0, if_neg c1, if_neg c2, if_neg c3, if_neg c4, if_neg c5]
  refine fin (none, 0, 0) ⟨_, _, _, rfl, M5, ?_⟩ (by rw [hL]; intro i x hx; simp at hx) (by rw [hL]; rfl)
  have d0 : (a == 0) = false := by simp [c0]
  have d1 : (a == 1) = false := by simp [c1]
  have d2 : (a == 2) = false := by simp [c2]
  have d3 : (a == 3) = false := by simp [c3]
  have d4 : (a == 4) = false := by simp [c4]
  have d5 : (a == 5) = false := by simp [c5]
  simp only [Array.toList_push, List.nil_append, List.cons_append, Instr.findNow, Instr.sameNow, if_true, Nat.zero_add, d0, d1, d2, d3, d4, d5]
theorem leads_len (a : Int) : (leadsL a).length ≤ 4 := by
  unfold leadsL
  repeat (split; · decide)
  decide
theorem can_ok (a b : Int) (w : World) : CallsR Try.prog 41 (.el (.one .bool)) [.int .i64 a, .int .i64 b] w (fun x w' => x = decide (b ∈ leadsL a) ∧ Ext w w') := by
  refine rxFn_ok (C := D0) (ann := can_vc_ann) (Eq.mpr (can_vc a b w _) ?_)
  intro w1 h1
  refine (leads_ok a w1).mono ?_
  rintro ⟨p, n, c⟩ w2 ⟨hs, hn, h2⟩ x1 e1
  dsimp only at e1 hn hs
  subst e1
  have hl := leads_len a
  refine ⟨fun k s w' => Ext w2 w' ∧ ∃ i : Nat, s.1 = i ∧ k + i = n ∧ ∀ j, j < i → (leadsL a)[j]? ≠ some b, ⟨n, fun w3 h3 => ⟨h3, 0, rfl, rfl, fun j hj => absurd hj (by omega)⟩⟩, ?_⟩
  rintro k ⟨i', u⟩ w3 ⟨h3, i, hi, hk, hj⟩
  simp only at hi
  subst hi
  dsimp only
  refine brP_intro (fun h => ?_) (fun h => fun w4 h4 => ⟨?_, ((h1.trans h2).trans h3).trans h4⟩)
  · simp only [decide_eq_true_eq] at h
    have hil : i < (leadsL a).length := by omega
    have r := (hs.ext h3) i _ (List.getElem?_eq_getElem hil)
    refine ⟨⟨r.1, by omega, by omega⟩, _, r.2, brP_intro (fun he w4 h4 => ⟨?_, ((h1.trans h2).trans h3).trans h4⟩) (fun he x ex w4 h4 => ⟨k - 1, by omega, h3.trans h4, i + 1, by rw [ex, addI_i64 (by omega) (by omega)]; rfl, by omega, ?_⟩)⟩
    · have : (leadsL a)[i] = b := by simpa using he
      have hm : b ∈ leadsL a := by rw [← this]; exact List.getElem_mem hil
      simp [hm]
    · intro j hj'
      by_cases e : j = i
      · subst e
        rw [List.getElem?_eq_getElem hil]
        intro hc
        simp only [Option.some.injEq] at hc
        simp [hc] at he
      · exact hj j (by omega)
  · simp only [decide_eq_false_iff_not] at h
    have : ¬ b ∈ leadsL a := by
      intro hm
      obtain ⟨j, hj1⟩ := List.getElem?_of_mem hm
      have := (List.getElem?_eq_some_iff.1 hj1).1
      exact hj j (by omega) hj1
    simp [this]
end Go.Proofs.Ytogndkmclingeaa
