import Derived.Test.YtmdcalknhbhlcaaLaw
import Derived.Test.YtmdcalknhbhlcaaPlain
import Derived.Test.YtmdcalknhbhlcaaLift
import Derived.Test.YtmdcalknhbhlcaaSep
namespace Go.Proofs.Ytmdcalknhbhlcaa
open Go.RX
def packs_vc_ann : Nat → Slots := (fun | 4 => [(5, Go.RX.El.one Go.RX.Sc.slice), (6, Go.RX.El.one Go.RX.Sc.slice), (7, Go.RX.El.one (Go.RX.Sc.int Go.IntKind.i64))] | 13 => [(10, Go.RX.El.one (Go.RX.Sc.int Go.IntKind.i64))] | _ => [])
theorem packs_vc (v0 v1 v2 v3 s0 s1 s2 s3 : Int) (w : World) (Post : Bool → World → Prop) : (rxFn C5 packs_vc_ann 6 [.agg ⟨[.int .u64 v0, .int .u64 v1, .int .u64 v2, .int .u64 v3]⟩, .agg ⟨[.int .u8 s0, .int .u8 s1, .int .u8 s2, .int .u8 s3]⟩] w Post) = (
 ∀ (w1 : World),
  Ext w w1 →
   ∀ (w1_1 : World),
    Ext
      (w1.alloc
       (Obj.cells
        {
         toList :=
          [Value.int IntKind.u64 v0, Value.int IntKind.u64 v1, Value.int IntKind.u64 v2, Value.int IntKind.u64 v3] }
        45))
      w1_1 →
     ∃ (I : Nat → (Option Addr × Nat × Nat) × (Option Addr × Nat × Nat) × Int × Unit → World → Prop),
      (∃ (n : Nat),
        ∀ (w1 : World),
         Ext
           (w1_1.alloc
            (Obj.cells
             {
              toList :=
               [Value.int IntKind.u8 s0, Value.int IntKind.u8 s1, Value.int IntKind.u8 s2, Value.int IntKind.u8 s3] }
             46))
           w1 →
          I n ((none, 0, 0), (none, 0, 0), 0, Unit.unit) w1) ∧
       ∀ (n : Nat) (s : (Option Addr × Nat × Nat) × (Option Addr × Nat × Nat) × Int × Unit) (w1_2 : World),
        I n s w1_2 →
         brP (decide (s.snd.snd.fst < 4))
          ((true = true ∧ 0 ≤ s.snd.snd.fst ∧ s.snd.snd.fst < (↑4 : Int)) ∧
           ∃ (x : Int),
            rdAt w1_2 (addP (some { block := w1_1.heap.size, off := 0 }) (Int.toNat s.snd.snd.fst * 1))
              (El.one (Sc.int IntKind.u8)) x ∧
             ∀ (x_1 : Int),
              x_1 = convI IntKind.i64 x →
               ∀ (x : Int),
                x = remI x_1 16 →
                 ∀ (x_2 : Int),
                  x_2 = addI IntKind.i64 1 x →
                   (true = true ∧ 0 ≤ s.snd.snd.fst ∧ s.snd.snd.fst < (↑4 : Int)) ∧
                    ∃ (x : Int),
                     rdAt w1_2 (addP (some { block := w1.heap.size, off := 0 }) (Int.toNat s.snd.snd.fst * 1))
                       (El.one (Sc.int IntKind.u64)) x ∧
                      ∀ (w1 : World),
                       Ext w1_2 w1 →
                        ∀ (w1_3 : World),
                         Ext (w1.alloc (Obj.cells { toList := [Value.int IntKind.u64 x, Value.int IntKind.i64 x_2] } 48))
                           w1_3 →
                          apR w1_3 48 2 16 { toList := [Value.int IntKind.u64 0, Value.int IntKind.i64 0] }
                           (s.fst.fst, s.fst.snd.fst, s.fst.snd.snd) (some { block := w1.heap.size, off := 0 }, 1, 1)
                           fun (r : Option Addr × Nat × Nat) (w2 : World) =>
                           ∀ (w1 : World),
                            Ext w2 w1 →
                             ∀ (w1_4 : World),
                              Ext (w1.alloc (Obj.cells { toList := [Value.int IntKind.i64 x_2] } 3)) w1_4 →
                               apR w1_4 3 1 8 { toList := [Value.int IntKind.i64 0] }
                                (s.snd.fst.fst, s.snd.fst.snd.fst, s.snd.fst.snd.snd)
                                (some { block := w1.heap.size, off := 0 }, 1, 1)
                                fun (r_1 : Option Addr × Nat × Nat) (w2 : World) =>
                                ∀ (x : Int),
                                 x = addI IntKind.i64 s.snd.snd.fst 1 →
                                  ∀ (w3 : World),
                                   Ext w2 w3 →
                                    ∃ (n' : Nat),
                                     n' < n ∧
                                      I n'
                                       ((r.fst, r.snd.fst, r.snd.snd), (r_1.fst, r_1.snd.fst, r_1.snd.snd), x,
                                        Unit.unit)
                                       w3)
          (∀ (w1_3 : World),
           Ext w1_2 w1_3 →
            CallsR Try.prog 24 (Sh.el (El.one (Sc.int IntKind.u64))) [Value.slice s.fst.fst s.fst.snd.fst s.fst.snd.snd]
             w1_3 fun (x : Int) (w2 : World) =>
             ∀ (w1_4 : World),
              Ext w2 w1_4 →
               CallsR Try.prog 22 (Sh.el (El.one Sc.slice))
                [Value.int IntKind.u64 x, Value.slice s.snd.fst.fst s.snd.fst.snd.fst s.snd.fst.snd.snd] w1_4
                fun (x : Option Addr × Nat × Nat) (w2 : World) =>
                ∀ (x_1 : Int),
                 x_1 = (↑x.snd.fst : Int) →
                  brP (x_1 != 4) (∀ (w1 : World), Ext w2 w1 → Post false w1)
                   (∃ (I : Nat → Int × Unit → World → Prop),
                    (∃ (n : Nat), ∀ (w1 : World), Ext w2 w1 → I n (0, Unit.unit) w1) ∧
                     ∀ (n : Nat) (s_1 : Int × Unit) (w1_5 : World),
                      I n s_1 w1_5 →
                       brP (decide (s_1.fst < 4))
                        ((x.fst.isSome = true ∧ 0 ≤ s_1.fst ∧ s_1.fst < (↑x.snd.fst : Int)) ∧
                         ∃ (x_2 : Int),
                          rdAt w1_5 (addP x.fst (Int.toNat s_1.fst * 1)) (El.one (Sc.int IntKind.u64)) x_2 ∧
                           (true = true ∧ 0 ≤ s_1.fst ∧ s_1.fst < (↑4 : Int)) ∧
                            ∃ (x : Int),
                             rdAt w1_5 (addP (some { block := w1.heap.size, off := 0 }) (Int.toNat s_1.fst * 1))
                               (El.one (Sc.int IntKind.u64)) x ∧
                              (s.snd.fst.fst.isSome = true ∧ 0 ≤ s_1.fst ∧ s_1.fst < (↑s.snd.fst.snd.fst : Int)) ∧
                               ∃ (x_3 : Int),
                                rdAt w1_5 (addP s.snd.fst.fst (Int.toNat s_1.fst * 1)) (El.one (Sc.int IntKind.i64))
                                  x_3 ∧
                                 0 ≤ convI IntKind.u64 x_3 ∧
                                  brP
                                   (x_2 !=
                                    andI IntKind.u64 x (subI IntKind.u64 (shlI IntKind.u64 1 (convI IntKind.u64 x_3)) 1))
                                   (∀ (w1 : World), Ext w1_5 w1 → Post false w1)
                                   (∀ (x : Int),
                                    x = addI IntKind.i64 s_1.fst 1 →
                                     ∀ (w3 : World), Ext w1_5 w3 → ∃ (n' : Nat), n' < n ∧ I n' (x, Unit.unit) w3))
                        (True ∧ ∀ (w1 : World), Ext w1_5 w1 → Post true w1)))) := by kernel_rfl
/-- What is packed is split. -/
theorem pack_split : ∀ (P : List (BitVec 64 × Int)) (w : BitVec 64) (lo : Int), 0 ≤ lo → (∀ x ∈ P, 1 ≤ x.2) → lo + (P.map (·.2)).sum ≤ 64 →
    (∀ j : Nat, (j : Int) < lo → (packB w lo P).getLsbD j = w.getLsbD j) ∧ splitB (packB w lo P) lo (P.map (·.2)) = some (P.map fun x => Gk x.1 0 x.2.toNat)
  | [], w, lo, _, _, _ => ⟨fun _ _ => rfl, rfl⟩
  | (v, sz) :: r, w, lo, hlo, hP, hs => by
    have h1 : 1 ≤ sz := hP (v, sz) List.mem_cons_self
    have hr : ∀ x ∈ r, 1 ≤ x.2 := fun x hx => hP x (List.mem_cons_of_mem _ hx)
    have hnn : ∀ (l : List (BitVec 64 × Int)), (∀ x ∈ l, 1 ≤ x.2) → 0 ≤ (l.map (·.2)).sum := by
      intro l
      induction l with
      | nil => intro _; simp
      | cons y t ih =>
        intro h
        have a1 := h y List.mem_cons_self
        have a2 := ih fun x hx => h x (List.mem_cons_of_mem _ hx)
        simp only [List.map_cons, List.sum_cons]; omega
    have h0 := hnn r hr
    simp only [List.map_cons, List.sum_cons] at hs
    have hf : fitsI lo sz = true := fitsI_iff.2 (by omega)
    have hn := fits_nat hf
    obtain ⟨i1, i2⟩ := pack_split r (putB w lo sz v) (lo + sz) (by omega) hr (by omega)
    have e : packB w lo ((v, sz) :: r) = packB (putB w lo sz v) (lo + sz) r := by simp only [packB, hf, if_true]
    rw [e]
    refine ⟨fun j hj => ?_, ?_⟩
    · rw [i1 j (by omega), putB_bit hf (by omega), if_neg (by omega)]
    · simp only [List.map_cons, splitB, hf, if_true, i2, Option.map_some]
      congr 2
      apply BitVec.eq_of_getLsbD_eq
      intro j hj
      rw [getB_bit hf, Gk_bit (by omega), Nat.zero_add]
      by_cases hjs : j < sz.toNat
      · rw [i1 _ (by omega), putB_bit hf (by omega), if_pos (by omega), show lo.toNat + j - lo.toNat = j by omega]
      · simp [hjs]
theorem low_mask : ∀ n : Nat, n ≤ 16 → (1#64 <<< n) - 1#64 = Mk 0 n := by
  intro n hn
  have : n = 0 ∨ n = 1 ∨ n = 2 ∨ n = 3 ∨ n = 4 ∨ n = 5 ∨ n = 6 ∨ n = 7 ∨ n = 8 ∨ n = 9 ∨ n = 10 ∨ n = 11 ∨ n = 12 ∨ n = 13 ∨ n = 14 ∨ n = 15 ∨ n = 16 := by omega
  rcases this with rfl | rfl | rfl | rfl | rfl | rfl | rfl | rfl | rfl | rfl | rfl | rfl | rfl | rfl | rfl | rfl | rfl <;> decide +kernel
def Apart (s t : Option Addr × Nat × Nat) : Prop := ∀ a b, s.1 = some a → t.1 = some b → a.block ≠ b.block
theorem own_lt {w0 w : World} {e : El} {s : Option Addr × Nat × Nat} {xs : List e.T} (h : Own w0 w e s xs) {a : Addr} (ha : s.1 = some a) : a.block < w.heap.size := by
  obtain ⟨_, _, h3⟩ := h
  rcases h3 with ⟨h3, _⟩ | ⟨b, l, h3, _, h4, _⟩
  · rw [h3] at ha; cases ha
  · rw [h3] at ha; cases ha; exact h4.lt
theorem packs_row (v : ScsT [.int .u64, .int .u64, .int .u64, .int .u64]) (hv : okScs [.int .u64, .int .u64, .int .u64, .int .u64] v) (s : ScsT [.int .u8, .int .u8, .int .u8, .int .u8]) (hs : okScs [.int .u8, .int .u8, .int .u8, .int .u8] s) (w : World) :
    CallsR Try.prog 6 (.el (.one .bool)) [.agg ⟨scsEmb _ v⟩, .agg ⟨scsEmb _ s⟩] w (fun b w' => b = true ∧ Ext w w') := by
  obtain ⟨v0, v1, v2, v3, _⟩ := v
  obtain ⟨s0, s1, s2, s3, _⟩ := s
  obtain ⟨c0, rfl⟩ := of_wf_u64 hv.1
  obtain ⟨c1, rfl⟩ := of_wf_u64 hv.2.1
  obtain ⟨c2, rfl⟩ := of_wf_u64 hv.2.2.1
  obtain ⟨c3, rfl⟩ := of_wf_u64 hv.2.2.2.1
  have b0 := u8_wf hs.1
  have b1 := u8_wf hs.2.1
  have b2 := u8_wf hs.2.2.1
  have b3 := u8_wf hs.2.2.2.1
  simp only at b0 b1 b2 b3
  refine rxFn_ok (C := C5) (ann := packs_vc_ann) (Eq.mpr (packs_vc (U c0) (U c1) (U c2) (U c3) s0 s1 s2 s3 w _) ?_)
  let Vs : List (BitVec 64) := [c0, c1, c2, c3]
  let Ss : List Int := [s0, s1, s2, s3]
  let Ns : List Int := [1 + s0 % 16, 1 + s1 % 16, 1 + s2 % 16, 1 + s3 % 16]
  let Ps : List (BitVec 64 × Int) := [(c0, 1 + s0 % 16), (c1, 1 + s1 % 16), (c2, 1 + s2 % 16), (c3, 1 + s3 % 16)]
  have hP : Ps.map (·.2) = Ns := rfl
  have hN : ∀ x ∈ Ns, 1 ≤ x ∧ x ≤ 16 := by
    intro x hx
    simp only [Ns, List.mem_cons, List.not_mem_nil, or_false] at hx
    omega
  have hSs : ∀ x ∈ Ss, 0 ≤ x ∧ x < 256 := by
    intro x hx
    simp only [Ss, List.mem_cons, List.not_mem_nil, or_false] at hx
    omega
  intro w1 h1 w2 h2
  let WA := w2.alloc (.cells ⟨[Value.int .u8 s0, Value.int .u8 s1, Value.int .u8 s2, Value.int .u8 s3]⟩ 46)
  have hWA : Ext w WA := (((h1.allocd _).trans h2).allocd _)
  have slV : Sl w2 eU (some ⟨w1.heap.size, 0, none⟩) (embU Vs) := Sl.of_blk ((Blk.new w1 _ _).ext h2) rfl
  have slV' : Sl WA eU (some ⟨w1.heap.size, 0, none⟩) (embU Vs) := slV.ext (Ext.alloc _ _)
  have slS : Sl WA (.one (.int .u8)) (some ⟨w2.heap.size, 0, none⟩) Ss := Sl.of_blk (Blk.new w2 _ _) rfl
  refine ⟨fun k t w' => Ext WA w' ∧ ∃ i : Nat, t.2.2.1 = i ∧ k + i = 4 ∧ Own WA w' eP t.1 (embP (Ps.take i)) ∧ Own WA w' eI t.2.1 (Ns.take i) ∧ Apart t.1 t.2.1, ⟨4, fun w3 h3 => ⟨h3, 0, rfl, rfl, Own.nil _ _ _, Own.nil _ _ _, fun a b ha => by cases ha⟩⟩, ?_⟩
  rintro k ⟨p, q, i', u⟩ w3 ⟨h3, i, e1, hk, op, oq, hap⟩
  simp only at e1 op oq hap
  subst e1
  dsimp only
  refine brP_intro (fun h => ?_) (fun h => ?_)
  · simp only [decide_eq_true_eq] at h
    have hi : i < 4 := by omega
    have i1 : (0 : Int) ≤ i ∧ (i : Int) < 4 := by omega
    have gS : Ss[i]? = some (Ss[i]'hi) := List.getElem?_eq_getElem hi
    have gV : (embU Vs)[i]? = some (U (Vs[i]'hi)) := by
      simp only [embU, List.getElem?_map]
      rw [List.getElem?_eq_getElem (show i < Vs.length from hi)]; rfl
    have gN : Ns[i]? = some (1 + Ss[i]'hi % 16) := by
      have : Ns = Ss.map fun x => 1 + x % 16 := rfl
      rw [this, List.getElem?_map, gS]; rfl
    have gP : Ps[i]? = some (Vs[i]'hi, 1 + Ss[i]'hi % 16) := by
      have : i = 0 ∨ i = 1 ∨ i = 2 ∨ i = 3 := by omega
      rcases this with rfl | rfl | rfl | rfl <;> rfl
    have hSb : 0 ≤ Ss[i]'hi ∧ Ss[i]'hi < 256 := hSs _ (List.getElem_mem hi)
    refine ⟨⟨rfl, i1.1, i1.2⟩, _, ((slS.ext h3) i _ gS).2, fun x1 f1 x2 f2 x3 f3 => ⟨⟨rfl, i1.1, i1.2⟩, _, ((slV'.ext h3) i _ gV).2, fun wA hA wB hB => ?_⟩⟩
    rw [conv_i64 (by omega) (by omega)] at f1
    rw [f1, remI_nn (by omega)] at f2
    rw [addI_i64 (by omega) (by omega)] at f3
    rw [f2] at f3
    subst f3
    have lp : (embP (Ps.take i)).length = i := by simp [embP, Ps]; omega
    have lq : (Ns.take i).length = i := by simp [Ns]; omega
    refine own_push_sep (e := eP) (x := (U (Vs[i]'hi), 1 + Ss[i]'hi % 16, ())) op h3 rfl hA hB rfl (by omega) fun p' w4 op' he4 hf4 hs4 hd4 wC hC wD hD => ?_
    have oq4 : Own WA w4 eI q (Ns.take i) := oq.same fun a ha => hf4 _ (own_lt oq ha) fun b hb => (hap b a hb ha).symm
    refine own_push_sep (e := eI) (x := 1 + Ss[i]'hi % 16) oq4 he4 rfl hC hD rfl (by omega) fun q' w5 oq' he5 hf5 hs5 hd5 x6 f6 w6 h6 => ⟨k - 1, by omega, he5.trans h6, i + 1, ?_, by omega, ?_, ?_, ?_⟩
    · rw [f6, addI_i64 (by omega) (by omega)]; rfl
    · have e2 : embP (Ps.take (i + 1)) = embP (Ps.take i) ++ [(U (Vs[i]'hi), 1 + Ss[i]'hi % 16, ())] := by
        unfold embP
        rw [List.take_add_one, gP]
        simp only [Option.toList, List.map_append, List.map_cons, List.map_nil]
      rw [e2]
      refine (op'.same fun a ha => hf5 _ (own_lt op' ha) fun b hb => ?_).ext h6
      rcases hd4 a ha with h7 | h7
      · exact hap a b h7 hb
      · have := own_lt oq hb
        omega
    · have e2 : Ns.take (i + 1) = Ns.take i ++ [1 + Ss[i]'hi % 16] := by
        rw [List.take_add_one, gN]; rfl
      rw [e2]
      exact oq'.ext h6
    · intro a b ha hb
      have la := own_lt op' ha
      rcases hd5 b hb with h7 | h7
      · rcases hd4 a ha with h8 | h8
        · exact hap a b h8 h7
        · have := own_lt oq h7
          omega
      · omega
  · simp only [decide_eq_false_iff_not] at h
    have hi : i = 4 := by omega
    subst hi
    intro w4 h4
    have op4 : Own WA w4 eP p (embP Ps) := op.ext h4
    have oq4 : Own WA w4 eI q Ns := oq.ext h4
    have E4 := h3.trans h4
    refine (pack_ok (c := p.2.2) op4.sl (by have := op4.len; simpa [embP] using this) (by have := op4.len; simp [embP, Ps] at this; omega)).mono ?_
    rintro x w5 ⟨ex, h5⟩ w6 h6
    have hps := pack_split Ps 0#64 0 (by decide) (fun y hy => (hN y.2 (by rw [← hP]; exact List.mem_map_of_mem hy)).1) (by
      show 0 + Ns.sum ≤ 64
      simp only [Ns, List.sum_cons, List.sum_nil]; omega)
    rw [ex]
    refine (split_ok (v := packB 0#64 0 Ps) (c := q.2.2) ((oq4.sl.ext h5).ext h6) (by have := oq4.len; simpa using this) (by have := oq4.len; simp [Ns] at this; omega)).mono ?_
    rintro ⟨r, n, c⟩ w7 ⟨o7, h7⟩
    rw [← hP, hps.2] at o7
    have ln : n = 4 := by have := o7.len; simpa [embU, Ps] using this
    subst ln
    have E7 := ((E4.trans h5).trans h6).trans h7
    intro x4 e4
    dsimp only at e4
    subst e4
    refine ⟨fun k t w' => Ext w7 w' ∧ ∃ i : Nat, t.1 = i ∧ k + i = 4, ⟨4, fun w8 h8 => ⟨h8, 0, rfl, rfl⟩⟩, ?_⟩
    rintro k2 ⟨i', u2⟩ w8 ⟨h8, i, e1, hk2⟩
    simp only at e1
    subst e1
    dsimp only
    refine brP_intro (fun h => ?_) (fun h => ⟨trivial, fun w9 h9 => ⟨rfl, ((hWA.trans E7).trans h8).trans h9⟩⟩)
    simp only [decide_eq_true_eq] at h
    have hi : i < 4 := by omega
    have i1 : (0 : Int) ≤ i ∧ (i : Int) < 4 := by omega
    have gS : Ss[i]? = some (Ss[i]'hi) := List.getElem?_eq_getElem hi
    have gV : (embU Vs)[i]? = some (U (Vs[i]'hi)) := by
      simp only [embU, List.getElem?_map]
      rw [List.getElem?_eq_getElem (show i < Vs.length from hi)]; rfl
    have gN : Ns[i]? = some (1 + Ss[i]'hi % 16) := by
      have : Ns = Ss.map fun x => 1 + x % 16 := rfl
      rw [this, List.getElem?_map, gS]; rfl
    have gO : (embU (Ps.map fun x => Gk x.1 0 x.2.toNat))[i]? = some (U (Gk (Vs[i]'hi) 0 (1 + Ss[i]'hi % 16).toNat)) := by
      have : i = 0 ∨ i = 1 ∨ i = 2 ∨ i = 3 := by omega
      rcases this with rfl | rfl | rfl | rfl <;> rfl
    have hNb := hN _ (List.mem_of_getElem? gN)
    have rO := (o7.sl.ext h8) i _ gO
    have rV := (slV'.ext (E7.trans h8)) i _ gV
    have rN := (oq4.sl.ext (((h5.trans h6).trans h7).trans h8)) i _ gN
    have lq : q.2.1 = 4 := by have := oq4.len; simpa [Ns] using this
    have ew : andI .u64 (U (Vs[i]'hi)) (subI .u64 (shlI .u64 1 (convI .u64 (1 + Ss[i]'hi % 16))) 1) = U (Gk (Vs[i]'hi) 0 (1 + Ss[i]'hi % 16).toNat) := by
      rw [conv_u64 (by omega) (by omega), show (1 : Int) = U 1#64 from rfl, shlI_U, subI_U, andI_U]
      have := low_mask (1 + Ss[i]'hi % 16).toNat (by omega)
      rw [show (U 1#64 + Ss[i]'hi % 16) = 1 + Ss[i]'hi % 16 from rfl, this]
      unfold Gk
      rw [BitVec.ushiftRight_zero]
    refine ⟨⟨rO.1, i1.1, i1.2⟩, _, rO.2, ⟨rfl, i1.1, i1.2⟩, _, rV.2, ⟨rN.1, i1.1, by rw [lq]; exact i1.2⟩, _, rN.2, by rw [conv_u64 (by omega) (by omega)]; omega, ?_⟩
    rw [ew]
    refine brP_intro (fun hne => by simp at hne) (fun _ x5 e5 w9 h9 => ⟨k2 - 1, by omega, h8.trans h9, i + 1, by rw [e5, addI_i64 (by omega) (by omega)]; rfl, by omega⟩)
end Go.Proofs.Ytmdcalknhbhlcaa
