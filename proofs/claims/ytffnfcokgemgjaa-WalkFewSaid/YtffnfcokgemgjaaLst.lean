import Derived.Test.YtffnfcokgemgjaaEnt
import Derived.Test.YtffnfcokgemgjaaLists
namespace Go.Proofs.Ytffnfcokgemgjaa
set_option linter.unusedSimpArgs false
set_option linter.unusedVariables false
set_option maxRecDepth 100000
open Go.RX
def split_vc_ann : Nat → Slots := (fun | 4 => [(5, Go.RX.El.one Go.RX.Sc.slice), (6, Go.RX.El.one (Go.RX.Sc.int Go.IntKind.i64)), (11, Go.RX.El.one (Go.RX.Sc.int Go.IntKind.i64))] | _ => [])
theorem split_vc (v : Int) (p : Option Addr) (n c : Nat) (w : World) (Post : Option Addr × Nat × Nat → World → Prop) : (rxFn C3 split_vc_ann 45 [.int .u64 v, .slice p n c] w Post) = (
 ∃ (I : Nat → (Option Addr × Nat × Nat) × Int × Int × Unit → World → Prop),
  (∃ (n : Nat), ∀ (w1 : World), Ext w w1 → I n ((none, 0, 0), 0, 0, Unit.unit) w1) ∧
   ∀ (n_1 : Nat) (s : (Option Addr × Nat × Nat) × Int × Int × Unit) (w1 : World),
    I n_1 s w1 →
     brP (decide (s.snd.snd.fst < (↑n : Int)))
      ((p.isSome = true ∧ 0 ≤ s.snd.snd.fst ∧ s.snd.snd.fst < (↑n : Int)) ∧
       LdP w1 none (addP p (Int.toNat s.snd.snd.fst * 1)) (El.one (Sc.int IntKind.i64)) fun (x : Int) =>
        True ∧
         brP (!fitsI s.snd.fst x) (EnP w1 fun (w1 : World) => Post (none, 0, 0) w1)
          (U (B v) = v ∧
           AlP w1 { toList := [Value.int IntKind.u64 (U (getB (B v) s.snd.fst x))] } 43 fun (b : Nat) (w2 : World) =>
            ∀ (w1 : World),
             Ext w2 w1 →
              apR w1 43 1 8 { toList := [Value.int IntKind.u64 0] } (s.fst.fst, s.fst.snd.fst, s.fst.snd.snd) (some { block := b, off := 0 }, 1, 1) fun (r : Option Addr × Nat × Nat) (w2 : World) =>
               ∀ (w3 : World), Ext w2 w3 → ∃ (n' : Nat), n' < n_1 ∧ I n' ((r.fst, r.snd.fst, r.snd.snd), addI IntKind.i64 s.snd.fst x, addI IntKind.i64 s.snd.snd.fst 1, Unit.unit) w3))
      (EnP w1 fun (w1 : World) => Post (s.fst.fst, s.fst.snd.fst, s.fst.snd.snd) w1)) := by kernel_rfl
def ints_vc_ann : Nat → Slots := (fun | 4 => [(5, Go.RX.El.one (Go.RX.Sc.int Go.IntKind.i64))] | _ => [])
theorem ints_vc (p q : Option Addr) (n c m d : Nat) (w : World) (Post : Bool → World → Prop) : (rxFn C3 ints_vc_ann 18 [.slice p n c, .slice q m d] w Post) = (
 brP ((↑n : Int) != (↑m : Int)) (EnP w fun (w1 : World) => Post false w1)
  (∃ (I : Nat → Int × Unit → World → Prop),
   (∃ (n : Nat), ∀ (w1 : World), Ext w w1 → I n (0, Unit.unit) w1) ∧
    ∀ (n_1 : Nat) (s : Int × Unit) (w1 : World),
     I n_1 s w1 →
      brP (decide (s.fst < (↑n : Int)))
       ((p.isSome = true ∧ 0 ≤ s.fst ∧ s.fst < (↑n : Int)) ∧
        LdP w1 none (addP p (Int.toNat s.fst * 1)) (El.one (Sc.int IntKind.i64)) fun (x : Int) =>
         (q.isSome = true ∧ 0 ≤ s.fst ∧ s.fst < (↑m : Int)) ∧
          LdP w1 none (addP q (Int.toNat s.fst * 1)) (El.one (Sc.int IntKind.i64)) fun (x_1 : Int) =>
           brP (x != x_1) (EnP w1 fun (w1 : World) => Post false w1) (∀ (w3 : World), Ext w1 w3 → ∃ (n' : Nat), n' < n_1 ∧ I n' (addI IntKind.i64 s.fst 1, Unit.unit) w3))
       (EnP w1 fun (w1 : World) => Post true w1))) := by kernel_rfl
abbrev eI : El := .one (.int .i64)
abbrev eU : El := .one (.int .u64)
abbrev eP : El := .agg [.int .u64, .int .i64]

theorem ints_ok {p q : Option Addr} {n c m d : Nat} {w : World} {xs ys : List Int} (hx : Sl w eI p xs) (hn : n = xs.length) (hy : Sl w eI q ys) (hm : m = ys.length) (hb : n < 4611686018427387904) :
    CallsR Try.prog 18 (.el (.one .bool)) [.slice p n c, .slice q m d] w (fun b w' => b = decide (xs = ys) ∧ Ext w w') := by
  refine rxFn_ok (C := C3) (ann := ints_vc_ann) (Eq.mpr (ints_vc p q n c m d w _) ?_)
  refine brP_intro (fun h w1 h1 => ⟨?_, h1⟩) (fun h => ?_)
  · have : xs ≠ ys := fun e => by subst e; simp [hn, hm] at h
    simp [this]
  · have hnm : n = m := by simp at h; omega
    refine ⟨fun k s w' => Ext w w' ∧ ∃ i : Nat, s.1 = i ∧ k + i = n ∧ ∀ j, j < i → xs[j]? = ys[j]?, ⟨n, fun w1 h1 => ⟨h1, 0, rfl, rfl, fun j hj => absurd hj (by omega)⟩⟩, ?_⟩
    rintro k ⟨i', u⟩ w1 ⟨hw, i, hi, hk, hj⟩
    simp only at hi
    subst hi
    dsimp only
    refine brP_intro (fun h => ?_) (fun h => fun w2 h2 => ⟨?_, hw.trans h2⟩)
    · simp only [decide_eq_true_eq] at h
      have h1 : i < xs.length := by omega
      have h2 : i < ys.length := by omega
      have a1 := (hx.ext hw) i xs[i] (List.getElem?_eq_getElem h1)
      have a2 := (hy.ext hw) i ys[i] (List.getElem?_eq_getElem h2)
      refine ⟨⟨a1.1, by omega, by omega⟩, xs[i], a1.2, ⟨a2.1, by omega, by omega⟩, ys[i], a2.2, brP_intro (fun hne w2 hw2 => ⟨?_, hw.trans hw2⟩) (fun he w2 hw2 => ⟨k - 1, by omega, hw.trans hw2, i + 1, ?_, by omega, ?_⟩)⟩
      · have : xs ≠ ys := fun e => by subst e; simp at hne
        simp [this]
      · show addI _ _ _ = _
        rw [addI_i64 (by omega) (by omega)]; rfl
      · intro j hj'
        by_cases e : j = i
        · subst e
          rw [List.getElem?_eq_getElem h1, List.getElem?_eq_getElem h2]
          simpa using he
        · exact hj j (by omega)
    · simp only [decide_eq_false_iff_not] at h
      have : xs = ys := by
        apply List.ext_getElem?
        intro j
        by_cases e : j < i
        · exact hj j e
        · rw [List.getElem?_eq_none (by omega), List.getElem?_eq_none (by omega)]
      simp [this]

/-- Fields as a word. -/
def packB : BitVec 64 → Int → List (BitVec 64 × Int) → BitVec 64
  | w, _, [] => w
  | w, lo, (v, sz) :: r => if fitsI lo sz = true then packB (putB w lo sz v) (lo + sz) r else 0#64
def embP (l : List (BitVec 64 × Int)) : List (Int × Int × Unit) := l.map fun x => (U x.1, x.2, ())
theorem drop_get {α : Type} {l : List α} {i : Nat} (h : i < l.length) : l.drop i = l[i] :: l.drop (i + 1) := List.drop_eq_getElem_cons h
/-- A word's fields. -/
def splitB (w : BitVec 64) : Int → List Int → Option (List (BitVec 64))
  | _, [] => some []
  | lo, sz :: r => if fitsI lo sz = true then (splitB w (lo + sz) r).map (getB w lo sz :: ·) else none
def embU (l : List (BitVec 64)) : List Int := l.map U
theorem split_ok {v : BitVec 64} {p : Option Addr} {n c : Nat} {w : World} {xs : List Int} (hx : Sl w eI p xs) (hn : n = xs.length) (hb : n ≤ 1000) :
    CallsR Try.prog 45 (.el (.one .slice)) [.int .u64 (U v), .slice p n c] w (fun r w' => Own w w' eU r (embU ((splitB v 0 xs).getD [])) ∧ Ext w w') := by
  refine rxFn_ok (C := C3) (ann := split_vc_ann) (Eq.mpr (split_vc (U v) p n c w _) ?_)
  refine ⟨fun k s w' => Ext w w' ∧ ∃ (i : Nat) (acc : List (BitVec 64)), s.2.2.1 = i ∧ k + i = n ∧ 0 ≤ s.2.1 ∧ s.2.1 ≤ 64 ∧ acc.length = i ∧ Own w w' eU s.1 (embU acc) ∧ splitB v 0 xs = (splitB v s.2.1 (xs.drop i)).map (acc ++ ·), ⟨n, fun w1 h1 => ⟨h1, 0, [], rfl, rfl, by decide, by decide, rfl, Own.nil w w1 eU, by simp⟩⟩, ?_⟩
  rintro k ⟨s, lo, i', u⟩ w1 ⟨hw, i, acc, h2, hk, hlo, hhi, hal, ho, hp⟩
  simp only at h2 ho hlo hhi hp
  subst h2
  dsimp only
  refine brP_intro (fun h => ?_) (fun h => fun w2 h2 => ⟨?_, hw.trans h2⟩)
  · simp only [decide_eq_true_eq] at h
    have hi : i < xs.length := by omega
    have a1 := (hx.ext hw) i _ (List.getElem?_eq_getElem hi)
    have i1 : p.isSome = true ∧ (0 : Int) ≤ i ∧ (i : Int) < n := ⟨a1.1, by omega, by omega⟩
    rw [drop_get hi] at hp
    refine ⟨i1, _, a1.2, trivial, brP_intro (fun hf w2 hw2 => ⟨?_, hw.trans hw2⟩) (fun hf => ⟨by rw [B_U], fun wA hA wB hB => ?_⟩)⟩
    · have hf' : fitsI lo xs[i] = false := by simpa using hf
      simp only [splitB, hf'] at hp
      rw [hp]
      exact Own.nil w w2 eU
    · have hf' : fitsI lo xs[i] = true := by simpa using hf
      have h3 := fitsI_iff.1 hf'
      have hl : (embU acc).length ≤ 1000 := by simp [embU]; omega
      refine own_push (e := eU) (x := U (getB (B (U v)) lo xs[i])) ho hw rfl hA hB rfl (by omega) fun s' w' ho' he' hf hs w3 hw3 => ⟨k - 1, by omega, he'.trans hw3, i + 1, acc ++ [getB v lo xs[i]], ?_, by omega, ?_, ?_, by simp [hal], ?_, ?_⟩
      · show addI _ _ _ = _
        rw [addI_i64 (by omega) (by omega)]; rfl
      · show 0 ≤ addI .i64 lo _
        rw [addI_i64 (by omega) (by omega)]; omega
      · show addI .i64 lo _ ≤ 64
        rw [addI_i64 (by omega) (by omega)]; omega
      · rw [B_U] at ho'
        have e1 : embU (acc ++ [getB v lo xs[i]]) = embU acc ++ [U (getB v lo xs[i])] := by simp [embU]
        rw [e1]
        exact ho'.ext hw3
      · show _ = (splitB v (addI .i64 lo _) _).map _
        rw [addI_i64 (by omega) (by omega), hp]
        simp only [splitB, hf', if_true, Option.map_map]
        congr 1
        funext l
        simp
  · simp only [decide_eq_false_iff_not] at h
    rw [List.drop_eq_nil_of_le (by omega)] at hp
    rw [hp]
    simp [splitB]
    exact ho.ext h2

/-- A word's ones, as numbers. -/
def embN (l : List Nat) : List Int := l.map (fun (n : Nat) => (n : Int))
end Go.Proofs.Ytffnfcokgemgjaa
