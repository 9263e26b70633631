import Derived.Test.YtdpbeelopakdiaaEnt
import Derived.Test.YtdpbeelopakdiaaLists
namespace Go.Proofs.Ytdpbeelopakdiaa
open Go.RX
def pack_vc_ann : Nat → Slots := (fun | 4 => [(3, Go.RX.El.one (Go.RX.Sc.int Go.IntKind.u64)), (4, Go.RX.El.one (Go.RX.Sc.int Go.IntKind.i64)), (9, Go.RX.El.one (Go.RX.Sc.int Go.IntKind.i64))] | _ => [])
theorem pack_vc (p : Option Addr) (n c : Nat) (w : World) (Post : Int → World → Prop) : (rxFn C3 pack_vc_ann 23 [.slice p n c] w Post) = (
 ∃ (I : Nat → Int × Int × Int × Unit → World → Prop),
  (∃ (n : Nat), ∀ (w1 : World), Ext w w1 → I n (0, 0, 0, Unit.unit) w1) ∧
   ∀ (n_1 : Nat) (s : Int × Int × Int × Unit) (w1 : World),
    I n_1 s w1 →
     brP (decide (s.snd.snd.fst < (↑n : Int)))
      ((p.isSome = true ∧ 0 ≤ s.snd.snd.fst ∧ s.snd.snd.fst < (↑n : Int)) ∧
       LdP w1 none (addP p (Int.toNat s.snd.snd.fst * 2)) (El.agg [Sc.int IntKind.u64, Sc.int IntKind.i64]) fun (x : Int × Int × Unit) =>
        AlP w1 { toList := [Value.int IntKind.u64 0, Value.int IntKind.i64 0] } 55 fun (b : Nat) (w2 : World) =>
         StP w2 (some { block := b, off := 0 }) [Value.int IntKind.u64 x.fst, Value.int IntKind.i64 x.snd.fst] fun (w2 : World) =>
          true = true ∧
           LdP w2 none (addP (some { block := b, off := 0 }) 1) (El.one (Sc.int IntKind.i64)) fun (x : Int) =>
            True ∧
             brP (!fitsI s.snd.fst x) (EnP w2 fun (w1 : World) => Post 0 w1)
              (true = true ∧
               LdP w2 none (addP (some { block := b, off := 0 }) 1) (El.one (Sc.int IntKind.i64)) fun (x : Int) =>
                true = true ∧
                 LdP w2 none (addP (some { block := b, off := 0 }) 0) (El.one (Sc.int IntKind.u64)) fun (x_1 : Int) =>
                  (U (B s.fst) = s.fst ∧ U (B x_1) = x_1) ∧
                   true = true ∧
                    LdP w2 none (addP (some { block := b, off := 0 }) 1) (El.one (Sc.int IntKind.i64)) fun (x_2 : Int) =>
                     ∀ (w3 : World), Ext w2 w3 → ∃ (n' : Nat), n' < n_1 ∧ I n' (U (putB (B s.fst) s.snd.fst x (B x_1)), addI IntKind.i64 s.snd.fst x_2, addI IntKind.i64 s.snd.snd.fst 1, Unit.unit) w3))
      (EnP w1 fun (w1 : World) => Post s.fst w1)) := by kernel_rfl
def split_vc_ann : Nat → Slots := (fun | 4 => [(5, Go.RX.El.one Go.RX.Sc.slice), (6, Go.RX.El.one (Go.RX.Sc.int Go.IntKind.i64)), (11, Go.RX.El.one (Go.RX.Sc.int Go.IntKind.i64))] | _ => [])
theorem split_vc (v : Int) (p : Option Addr) (n c : Nat) (w : World) (Post : Option Addr × Nat × Nat → World → Prop) : (rxFn C3 split_vc_ann 24 [.int .u64 v, .slice p n c] w Post) = (
 ∃ (I : Nat → (Option Addr × Nat × Nat) × Int × Int × Unit → World → Prop),
  (∃ (n : Nat), ∀ (w1 : World), Ext w w1 → I n ((none, 0, 0), 0, 0, Unit.unit) w1) ∧
   ∀ (n_1 : Nat) (s : (Option Addr × Nat × Nat) × Int × Int × Unit) (w1 : World),
    I n_1 s w1 →
     brP (decide (s.snd.snd.fst < (↑n : Int)))
      ((p.isSome = true ∧ 0 ≤ s.snd.snd.fst ∧ s.snd.snd.fst < (↑n : Int)) ∧
       LdP w1 none (addP p (Int.toNat s.snd.snd.fst * 1)) (El.one (Sc.int IntKind.i64)) fun (x : Int) =>
        True ∧
         brP (!fitsI s.snd.fst x) (EnP w1 fun (w1 : World) => Post (none, 0, 0) w1)
          (U (B v) = v ∧
           AlP w1 { toList := [Value.int IntKind.u64 (U (getB (B v) s.snd.fst x))] } 24 fun (b : Nat) (w2 : World) =>
            ∀ (w1 : World),
             Ext w2 w1 →
              apR w1 24 1 8 { toList := [Value.int IntKind.u64 0] } (s.fst.fst, s.fst.snd.fst, s.fst.snd.snd) (some { block := b, off := 0 }, 1, 1) fun (r : Option Addr × Nat × Nat) (w2 : World) =>
               ∀ (w3 : World), Ext w2 w3 → ∃ (n' : Nat), n' < n_1 ∧ I n' ((r.fst, r.snd.fst, r.snd.snd), addI IntKind.i64 s.snd.fst x, addI IntKind.i64 s.snd.snd.fst 1, Unit.unit) w3))
      (EnP w1 fun (w1 : World) => Post (s.fst.fst, s.fst.snd.fst, s.fst.snd.snd) w1)) := by kernel_rfl
abbrev eI : El := .one (.int .i64)
abbrev eU : El := .one (.int .u64)
abbrev eP : El := .agg [.int .u64, .int .i64]

/-- Fields as a word. -/
def packB : BitVec 64 → Int → List (BitVec 64 × Int) → BitVec 64
  | w, _, [] => w
  | w, lo, (v, sz) :: r => if fitsI lo sz = true then packB (putB w lo sz v) (lo + sz) r else 0#64
def embP (l : List (BitVec 64 × Int)) : List (Int × Int × Unit) := l.map fun x => (U x.1, x.2, ())
theorem drop_get {α : Type} {l : List α} {i : Nat} (h : i < l.length) : l.drop i = l[i] :: l.drop (i + 1) := List.drop_eq_getElem_cons h
theorem pack_ok {p : Option Addr} {n c : Nat} {w : World} {xs : List (BitVec 64 × Int)} (hx : Sl w eP p (embP xs)) (hn : n = xs.length) (hb : n < 4611686018427387904) :
    CallsR Try.prog 23 (.el eU) [.slice p n c] w (fun x w' => x = U (packB 0#64 0 xs) ∧ Ext w w') := by
  refine rxFn_ok (C := C3) (ann := pack_vc_ann) (Eq.mpr (pack_vc p n c w _) ?_)
  refine ⟨fun k s w' => Ext w w' ∧ ∃ (i : Nat) (b : BitVec 64), s.1 = U b ∧ s.2.2.1 = i ∧ k + i = n ∧ 0 ≤ s.2.1 ∧ s.2.1 ≤ 64 ∧ packB b s.2.1 (xs.drop i) = packB 0#64 0 xs, ⟨n, fun w1 h1 => ⟨h1, 0, 0#64, rfl, rfl, rfl, by decide, by decide, rfl⟩⟩, ?_⟩
  rintro k ⟨x, lo, i', u⟩ w1 ⟨hw, i, b, h1, h2, hk, hlo, hhi, hp⟩
  simp only at h1 h2 hlo hhi hp
  subst h1; subst h2
  dsimp only
  refine brP_intro (fun h => ?_) (fun h => fun w2 h2 => ⟨?_, hw.trans h2⟩)
  · simp only [decide_eq_true_eq] at h
    have hi : i < xs.length := by omega
    have hg : (embP xs)[i]? = some (U xs[i].1, xs[i].2, ()) := by simp [embP, hi]
    have a1 := (hx.ext hw) i _ hg
    rw [drop_get hi] at hp
    refine ⟨⟨a1.1, by omega, by omega⟩, _, a1.2, fun wA hA wB hB => ?_⟩
    have blk : Blk wB wA.heap.size [.int .u64 0, .int .i64 0] := (Blk.new wA _ _).ext hB
    have hwA : Ext w wA := hw.trans hA
    have hwB : Ext w wB := (hwA.allocd _).trans hB
    have blk' := blk.put (o := 0) [Value.int .u64 (U xs[i].1), Value.int .i64 xs[i].2] (by simp)
    simp at blk'
    have hwP : Ext w (putP wB (some ⟨wA.heap.size, 0, none⟩) [Value.int .u64 (U xs[i].1), Value.int .i64 xs[i].2]) := hwB.putP (a := ⟨wA.heap.size, 0, none⟩) hwA.size _
    have r0 : rdAt (putP wB (some ⟨wA.heap.size, 0, none⟩) [Value.int .u64 (U xs[i].1), Value.int .i64 xs[i].2]) (addP (some ⟨wA.heap.size, 0, none⟩) 0) (.one (.int .u64)) (U xs[i].1) := by
      rw [addP_B]; exact blk'.rd1 rfl
    have r1 : rdAt (putP wB (some ⟨wA.heap.size, 0, none⟩) [Value.int .u64 (U xs[i].1), Value.int .i64 xs[i].2]) (addP (some ⟨wA.heap.size, 0, none⟩) 1) (.one (.int .i64)) xs[i].2 := by
      rw [addP_B]; exact blk'.rd1 rfl
    refine ⟨⟨rfl, blk.st (by simp)⟩, rfl, _, r1, trivial, brP_intro (fun hf w2 hw2 => ⟨?_, hwP.trans hw2⟩) (fun hf => ⟨rfl, _, r1, rfl, _, r0, ⟨by rw [B_U], by rw [B_U]⟩, rfl, _, r1, fun w3 hw3 => ⟨k - 1, by omega, hwP.trans hw3, i + 1, putB b lo xs[i].2 xs[i].1, ?_, ?_, by omega, ?_, ?_, ?_⟩⟩)⟩
    · have hf' : fitsI lo xs[i].2 = false := by simpa using hf
      rw [← hp]
      simp only [packB, hf']; rfl
    all_goals
      have hf' : fitsI lo xs[i].2 = true := by simpa using hf
      have h3 := fitsI_iff.1 hf'
    · show U _ = _
      rw [B_U, B_U]
    · show addI _ _ _ = _
      rw [addI_i64 (by omega) (by omega)]; rfl
    · show 0 ≤ addI .i64 lo _
      rw [addI_i64 (by omega) (by omega)]; omega
    · show addI .i64 lo _ ≤ 64
      rw [addI_i64 (by omega) (by omega)]; omega
    · show packB _ (addI .i64 lo _) _ = _
      rw [addI_i64 (by omega) (by omega), ← hp]
      simp only [packB, hf', if_true]
  · simp only [decide_eq_false_iff_not] at h
    rw [List.drop_eq_nil_of_le (by omega)] at hp
    rw [← hp]; rfl

/-- A word's fields. -/
def splitB (w : BitVec 64) : Int → List Int → Option (List (BitVec 64))
  | _, [] => some []
  | lo, sz :: r => if fitsI lo sz = true then (splitB w (lo + sz) r).map (getB w lo sz :: ·) else none
def embU (l : List (BitVec 64)) : List Int := l.map U
theorem split_ok {v : BitVec 64} {p : Option Addr} {n c : Nat} {w : World} {xs : List Int} (hx : Sl w eI p xs) (hn : n = xs.length) (hb : n ≤ 1000) :
    CallsR Try.prog 24 (.el (.one .slice)) [.int .u64 (U v), .slice p n c] w (fun r w' => Own w w' eU r (embU ((splitB v 0 xs).getD [])) ∧ Ext w w') := by
  refine rxFn_ok (C := C3) (ann := split_vc_ann) (Eq.mpr (split_vc (U v) p n c w _) ?_)
  refine ⟨fun k s w' => Ext w w' ∧ ∃ (i : Nat) (acc : List (BitVec 64)), s.2.2.1 = i ∧ k + i = n ∧ 0 ≤ s.2.1 ∧ s.2.1 ≤ 64 ∧ acc.length = i ∧ Own w w' eU s.1 (embU acc) ∧ splitB v 0 xs = (splitB v s.2.1 (xs.drop i)).map (acc ++ ·), ⟨n, fun w1 h1 => ⟨h1, 0, [], rfl, rfl, by decide, by decide, rfl, Own.nil w w1 eU, by simp⟩⟩, ?_⟩
  rintro k ⟨s, lo, i', u⟩ w1 ⟨hw, i, acc, h2, hk, hlo, hhi, hal, ho, hp⟩
  simp only at h2 ho hlo hhi hp
  subst h2
  dsimp only
  refine brP_intro (fun h => ?_) (fun h => fun w2 h2 => ⟨?_, hw.trans h2⟩)
  · simp only [decide_eq_true_eq] at h
    have hi : i < xs.length := by omega
    have a1 := (hx.ext hw) i _ (List.getElem?_eq_getElem hi)
    have i1 : p.isSome = true ∧ (0 : Int) ≤ i ∧ (i : Int) < n := ⟨a1.1, by omega, by omega⟩
    rw [drop_get hi] at hp
    refine ⟨i1, _, a1.2, trivial, brP_intro (fun hf w2 hw2 => ⟨?_, hw.trans hw2⟩) (fun hf => ⟨by rw [B_U], fun wA hA wB hB => ?_⟩)⟩
    · have hf' : fitsI lo xs[i] = false := by simpa using hf
      simp only [splitB, hf'] at hp
      rw [hp]
      exact Own.nil w w2 eU
    · have hf' : fitsI lo xs[i] = true := by simpa using hf
      have h3 := fitsI_iff.1 hf'
      have hl : (embU acc).length ≤ 1000 := by simp [embU]; omega
      refine own_push (e := eU) (x := U (getB (B (U v)) lo xs[i])) ho hw rfl hA hB rfl (by omega) fun s' w' ho' he' hf hs w3 hw3 => ⟨k - 1, by omega, he'.trans hw3, i + 1, acc ++ [getB v lo xs[i]], ?_, by omega, ?_, ?_, by simp [hal], ?_, ?_⟩
      · show addI _ _ _ = _
        rw [addI_i64 (by omega) (by omega)]; rfl
      · show 0 ≤ addI .i64 lo _
        rw [addI_i64 (by omega) (by omega)]; omega
      · show addI .i64 lo _ ≤ 64
        rw [addI_i64 (by omega) (by omega)]; omega
      · rw [B_U] at ho'
        have e1 : embU (acc ++ [getB v lo xs[i]]) = embU acc ++ [U (getB v lo xs[i])] := by simp [embU]
        rw [e1]
        exact ho'.ext hw3
      · show _ = (splitB v (addI .i64 lo _) _).map _
        rw [addI_i64 (by omega) (by omega), hp]
        simp only [splitB, hf', if_true, Option.map_map]
        congr 1
        funext l
        simp
  · simp only [decide_eq_false_iff_not] at h
    rw [List.drop_eq_nil_of_le (by omega)] at hp
    rw [hp]
    simp [splitB]
    exact ho.ext h2

/-- A word's ones, as numbers. -/
def embN (l : List Nat) : List Int := l.map (fun (n : Nat) => (n : Int))
end Go.Proofs.Ytdpbeelopakdiaa
