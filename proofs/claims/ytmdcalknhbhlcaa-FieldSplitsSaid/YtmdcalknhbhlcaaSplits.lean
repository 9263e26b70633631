import Derived.Test.YtmdcalknhbhlcaaLaw
import Derived.Test.YtmdcalknhbhlcaaPlain
import Derived.Test.YtmdcalknhbhlcaaLift
namespace Go.Proofs.Ytmdcalknhbhlcaa
open Go.RX
def splits_vc_ann : Nat → Slots := (fun _ => [])
theorem splits_vc (v : Int) (p q : Option Addr) (n c m d : Nat) (w : World) (Post : Bool → World → Prop) : (rxFn C5 splits_vc_ann 4 [.int .u64 v, .slice p n c, .slice q m d] w Post) = (
 ∀ (x : Int),
  x = (↑n : Int) →
   ∀ (x_1 : Int),
    x_1 = (↑m : Int) →
     brP (decide (x > 100) || decide (x_1 > 100)) (True ∧ ∀ (w1 : World), Ext w w1 → Post true w1)
      (∀ (w1 : World),
       Ext w w1 →
        CallsR Try.prog 22 (Sh.el (El.one Sc.slice)) [Value.int IntKind.u64 v, Value.slice p n c] w1
         fun (x : Option Addr × Nat × Nat) (w2 : World) =>
         ∀ (w1 : World),
          Ext w2 w1 →
           CallsR Try.prog 23 (Sh.el (El.one Sc.slice)) [Value.int IntKind.u64 v, Value.slice p n c] w1
            fun (x_2 : Option Addr × Nat × Nat) (w2 : World) =>
            ∀ (w1 : World),
             Ext w2 w1 →
              CallsR Try.prog 21 (Sh.el (El.one Sc.bool))
               [Value.slice x.fst x.snd.fst x.snd.snd, Value.slice x_2.fst x_2.snd.fst x_2.snd.snd] w1
               fun (x : Bool) (w2 : World) =>
               brP x
                (∀ (w1 : World),
                 Ext w2 w1 →
                  CallsR Try.prog 24 (Sh.el (El.one (Sc.int IntKind.u64))) [Value.slice q m d] w1
                   fun (x : Int) (w2 : World) =>
                   ∀ (w1 : World),
                    Ext w2 w1 →
                     CallsR Try.prog 26 (Sh.el (El.one Sc.slice)) [Value.slice q m d] w1
                      fun (x_3 : Option Addr × Nat × Nat) (w2 : World) =>
                      ∀ (w1 : World),
                       Ext w2 w1 →
                        CallsR Try.prog 25 (Sh.el (El.one (Sc.int IntKind.u64)))
                         [Value.slice x_3.fst x_3.snd.fst x_3.snd.snd] w1 fun (x_4 : Int) (w2 : World) =>
                         ((if true = true then x == x_4 else !x == x_4) = true → True) ∧
                          ∀ (w1 : World), Ext w2 w1 → Post (x == x_4 && true) w1)
                ((false = true → True) ∧ ∀ (w1 : World), Ext w2 w1 → Post false w1))) := by kernel_rfl
theorem emb_of {w : World} {p : Option Addr} {xs : List (ScsT [.int .u64, .int .i64])} (h : Sl w (.agg [.int .u64, .int .i64]) p xs) (hw : ∀ x ∈ xs, okScs [.int .u64, .int .i64] x) : ∃ l : List (BitVec 64 × Int), l.length = xs.length ∧ Sl w eP p (embP l) := by
  refine ⟨xs.map fun x => (B x.1, x.2.1), by simp, ?_⟩
  have : embP (xs.map fun x => (B x.1, x.2.1)) = xs := by
    unfold embP
    rw [List.map_map]
    conv => rhs; rw [← List.map_id xs]
    apply List.map_congr_left
    intro x hx
    obtain ⟨b, hb⟩ := of_wf_u64 (hw x hx).1
    obtain ⟨a, c, u⟩ := x
    simp only at hb
    subst hb
    show (U (B (U b)), c, ()) = (U b, c, u)
    rw [B_U]
  rw [this]; exact h
theorem splits_row (v : BitVec 64) (p : Option Addr) (n c : Nat) (xs : List Int) (hn : n = xs.length) (_ : n ≤ maxLen) {w : World} (hx : Sl w (.one (.int .i64)) p xs) (_ : ∀ x ∈ xs, (Lit.int .i64 x).wf = true)
    (q : Option Addr) (m d : Nat) (ys : List (ScsT [.int .u64, .int .i64])) (hm : m = ys.length) (_ : m ≤ maxLen) (hy : Sl w (.agg [.int .u64, .int .i64]) q ys) (hw : ∀ x ∈ ys, okScs [.int .u64, .int .i64] x) :
    CallsR Try.prog 4 (.el (.one .bool)) [.int .u64 (U v), .slice p n c, .slice q m d] w (fun b w' => b = true ∧ Ext w w') := by
  refine rxFn_ok (C := C5) (ann := splits_vc_ann) (Eq.mpr (splits_vc (U v) p q n c m d w _) ?_)
  obtain ⟨l, hl, hs⟩ := emb_of hy hw
  intro n' en m' em
  subst en; subst em
  apply brP_intro
  · intro _
    exact ⟨trivial, fun w1 h1 => ⟨rfl, h1⟩⟩
  intro h w1 h1
  have h' : n ≤ 100 ∧ m ≤ 100 := by
    simp only [Bool.or_eq_false_iff, decide_eq_false_iff_not] at h
    omega
  refine (split_ok (v := v) (c := c) (hx.ext h1) hn (by omega)).mono ?_
  rintro ⟨p1, n1, c1⟩ w2 ⟨o1, h2⟩ w3 h3
  refine (rsplit_ok (v := v) (c := c) (hx.ext ((h1.trans h2).trans h3)) hn (by omega)).mono ?_
  rintro ⟨p2, n2, c2⟩ w4 ⟨o2, h4⟩ w5 h5
  dsimp only
  have ls : ∀ (xs : List Int) (lo : Int), (embU ((splitB v lo xs).getD [])).length ≤ xs.length := by
    intro xs
    induction xs with
    | nil => intro lo; simp [splitB, embU]
    | cons x r ih =>
      intro lo
      simp only [splitB]
      split
      · have := ih (lo + x)
        cases hr : splitB v (lo + x) r with
        | none => simp [embU]
        | some a => rw [hr] at this; simp [embU] at this ⊢; exact this
      · simp [embU]
  have l1 : n1 = (embU ((splitB v 0 xs).getD [])).length := o1.len
  have l2 : n2 = (embU ((splitB v 0 xs).getD [])).length := o2.len
  have l3 := ls xs 0
  refine (words_ok ((o1.sl.ext (h3.trans h4)).ext h5) l1 (o2.sl.ext h5) l2 (by omega)).mono ?_
  rintro b w6 ⟨hb, h6⟩
  have E6 := (((h1.trans h2).trans h3).trans h4).trans (h5.trans h6)
  refine tt_intro (by rw [hb]; simp) fun w7 h7 => ?_
  refine (pack_ok (c := d) (hs.ext (E6.trans h7)) (by omega) (by omega)).mono ?_
  rintro x w8 ⟨e8, h8⟩ w9 h9
  have E9 := (E6.trans h7).trans (h8.trans h9)
  refine (parts_ok (c := d) (hs.ext E9) (by omega) (by omega)).mono ?_
  rintro ⟨p3, n3, c3⟩ w10 ⟨o3, h10⟩ w11 h11
  dsimp only
  have l4 : n3 = (embP l).length := o3.len
  refine (rpack_ok (c := c3) (o3.sl.ext h11) (by rw [l4]; simp [embP]) (by rw [l4]; simp [embP]; omega)).mono ?_
  rintro x2 w12 ⟨e12, h12⟩
  refine ⟨fun _ => trivial, fun w13 h13 => ⟨?_, (E9.trans (h10.trans h11)).trans (h12.trans h13)⟩⟩
  rw [e8, e12]; simp
end Go.Proofs.Ytmdcalknhbhlcaa
