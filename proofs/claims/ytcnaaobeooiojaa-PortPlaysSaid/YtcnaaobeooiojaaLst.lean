import Derived.Test.YtcnaaobeooiojaaEnt
import Derived.Test.YtcnaaobeooiojaaLists
namespace Go.Proofs.Ytcnaaobeooiojaa
set_option linter.unusedSimpArgs false
set_option linter.unusedVariables false
open Go.RX
def ints_vc_ann : Nat → Slots := (fun | 4 => [(5, Go.RX.El.one (Go.RX.Sc.int Go.IntKind.i64))] | _ => [])
theorem ints_vc (p q : Option Addr) (n c m d : Nat) (w : World) (Post : Bool → World → Prop) : (rxFn C3 ints_vc_ann 25 [.slice p n c, .slice q m d] w Post) = (
 brP ((↑n : Int) != (↑m : Int)) (EnP w fun (w1 : World) => Post false w1)
  (∃ (I : Nat → Int × Unit → World → Prop),
   (∃ (n : Nat), ∀ (w1 : World), Ext w w1 → I n (0, Unit.unit) w1) ∧
    ∀ (n_1 : Nat) (s : Int × Unit) (w1 : World),
     I n_1 s w1 →
      brP (decide (s.fst < (↑n : Int)))
       ((p.isSome = true ∧ 0 ≤ s.fst ∧ s.fst < (↑n : Int)) ∧
        LdP w1 none (addP p (Int.toNat s.fst * 1)) (El.one (Sc.int IntKind.i64)) fun (x : Int) =>
         (q.isSome = true ∧ 0 ≤ s.fst ∧ s.fst < (↑m : Int)) ∧
          LdP w1 none (addP q (Int.toNat s.fst * 1)) (El.one (Sc.int IntKind.i64)) fun (x_1 : Int) =>
           brP (x != x_1) (EnP w1 fun (w1 : World) => Post false w1) (∀ (w3 : World), Ext w1 w3 → ∃ (n' : Nat), n' < n_1 ∧ I n' (addI IntKind.i64 s.fst 1, Unit.unit) w3))
       (EnP w1 fun (w1 : World) => Post true w1))) := by kernel_rfl
abbrev eI : El := .one (.int .i64)
abbrev eU : El := .one (.int .u64)
abbrev eP : El := .agg [.int .u64, .int .i64]

theorem ints_ok {p q : Option Addr} {n c m d : Nat} {w : World} {xs ys : List Int} (hx : Sl w eI p xs) (hn : n = xs.length) (hy : Sl w eI q ys) (hm : m = ys.length) (hb : n < 4611686018427387904) :
    CallsR Try.prog 25 (.el (.one .bool)) [.slice p n c, .slice q m d] w (fun b w' => b = decide (xs = ys) ∧ Ext w w') := by
  refine rxFn_ok (C := C3) (ann := ints_vc_ann) (Eq.mpr (ints_vc p q n c m d w _) ?_)
  refine brP_intro (fun h w1 h1 => ⟨?_, h1⟩) (fun h => ?_)
  · have : xs ≠ ys := fun e => by subst e; simp [hn, hm] at h
    simp [this]
  · have hnm : n = m := by simp at h; omega
    refine ⟨fun k s w' => Ext w w' ∧ ∃ i : Nat, s.1 = i ∧ k + i = n ∧ ∀ j, j < i → xs[j]? = ys[j]?, ⟨n, fun w1 h1 => ⟨h1, 0, rfl, rfl, fun j hj => absurd hj (by omega)⟩⟩, ?_⟩
    rintro k ⟨i', u⟩ w1 ⟨hw, i, hi, hk, hj⟩
    simp only at hi
    subst hi
    dsimp only
    refine brP_intro (fun h => ?_) (fun h => fun w2 h2 => ⟨?_, hw.trans h2⟩)
    · simp only [decide_eq_true_eq] at h
      have h1 : i < xs.length := by omega
      have h2 : i < ys.length := by omega
      have a1 := (hx.ext hw) i xs[i] (List.getElem?_eq_getElem h1)
      have a2 := (hy.ext hw) i ys[i] (List.getElem?_eq_getElem h2)
      refine ⟨⟨a1.1, by omega, by omega⟩, xs[i], a1.2, ⟨a2.1, by omega, by omega⟩, ys[i], a2.2, brP_intro (fun hne w2 hw2 => ⟨?_, hw.trans hw2⟩) (fun he w2 hw2 => ⟨k - 1, by omega, hw.trans hw2, i + 1, ?_, by omega, ?_⟩)⟩
      · have : xs ≠ ys := fun e => by subst e; simp at hne
        simp [this]
      · show addI _ _ _ = _
        rw [addI_i64 (by omega) (by omega)]; rfl
      · intro j hj'
        by_cases e : j = i
        · subst e
          rw [List.getElem?_eq_getElem h1, List.getElem?_eq_getElem h2]
          simpa using he
        · exact hj j (by omega)
    · simp only [decide_eq_false_iff_not] at h
      have : xs = ys := by
        apply List.ext_getElem?
        intro j
        by_cases e : j < i
        · exact hj j e
        · rw [List.getElem?_eq_none (by omega), List.getElem?_eq_none (by omega)]
      simp [this]

/-- Fields as a word. -/
def packB : BitVec 64 → Int → List (BitVec 64 × Int) → BitVec 64
  | w, _, [] => w
  | w, lo, (v, sz) :: r => if fitsI lo sz = true then packB (putB w lo sz v) (lo + sz) r else 0#64
def embP (l : List (BitVec 64 × Int)) : List (Int × Int × Unit) := l.map fun x => (U x.1, x.2, ())
theorem drop_get {α : Type} {l : List α} {i : Nat} (h : i < l.length) : l.drop i = l[i] :: l.drop (i + 1) := List.drop_eq_getElem_cons h
/-- A word's fields. -/
def splitB (w : BitVec 64) : Int → List Int → Option (List (BitVec 64))
  | _, [] => some []
  | lo, sz :: r => if fitsI lo sz = true then (splitB w (lo + sz) r).map (getB w lo sz :: ·) else none
def embU (l : List (BitVec 64)) : List Int := l.map U
/-- A word's ones, as numbers. -/
def embN (l : List Nat) : List Int := l.map (fun (n : Nat) => (n : Int))
end Go.Proofs.Ytcnaaobeooiojaa
