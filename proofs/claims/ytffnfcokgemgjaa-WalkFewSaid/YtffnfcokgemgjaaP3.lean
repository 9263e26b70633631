import Derived.Test.YtffnfcokgemgjaaP2
import Derived.Test.YtffnfcokgemgjaaSep
namespace Go.Proofs.Ytffnfcokgemgjaa
set_option linter.unusedSimpArgs false
set_option linter.unusedVariables false
set_option maxRecDepth 100000
open Go.RX
/-- A right entry's word. -/
def wordI (p : Bool) (r : Int) (l : Bool) (f : Int) : Int := (nB p : Int) + 2 * r + 16 * (nB l : Int) + 4096 * f
def pkW (p : Bool) (r : Int) (l : Bool) (f : Int) : Int := if rightE p r l f = true then wordI p r l f else 0
def pkE (p : Bool) (r : Int) (l : Bool) (f : Int) : Int := if rightE p r l f = true then 0 else 11
theorem B_nat {x : Int} (h : 0 ≤ x) (h' : x < 18446744073709551616) : (B x).toNat = x.toNat := by
  have : ((B x).toNat : Int) = x := U_B' h h'
  omega
theorem pack_plain {p : Bool} {r : Int} {l : Bool} {f : Int} (h : rightE p r l f = true) : U (packB 0#64 0 [(bB p, 1), (B r, 3), (bB l, 1), (0#64, 7), (B f, 12)]) = wordI p r l f := by
  have b := right_bd h
  rw [U_eq (pack_word (B_nat (by omega) (by omega)) (by omega) (B_nat (by omega) (by omega)) (by omega))]
  unfold wordI
  omega
theorem addI_u64 {x y : Int} (h : 0 ≤ x + y) (h' : x + y < 18446744073709551616) : addI .u64 x y = x + y := by
  show IntKind.u64.wrap (x + y) = _
  rw [wrap_u64]; omega
theorem mulI_u64 {x y : Int} (h : 0 ≤ x * y) (h' : x * y < 18446744073709551616) : mulI .u64 x y = x * y := by
  show IntKind.u64.wrap (x * y) = _
  rw [wrap_u64]; omega
theorem rpack_ok' (p : Bool) (r : Int) (l : Bool) (f : Int) (w : World) : CallsR Try.prog 60 (.tup [eU, eI]) [.agg ⟨[.bool p, .int .i64 r, .bool l, .int .i64 f]⟩] w (fun x w' => x = (pkW p r l f, pkE p r l f, ()) ∧ Ext w w') := by
  refine rxFn_ok (C := D1) (ann := fun _ => []) (Eq.mpr (rpack_vc' p r l f w _) ?_)
  intro w1 h1
  obtain ⟨g0, g1, g2, g3, ga⟩ := ent_rd (Blk.new w1 [.bool p, .int .i64 r, .bool l, .int .i64 f] 95)
  have fin : ∀ (h : rightE p r l f = true) (s : Int), s = (nB p : Int) + 16 * (nB l : Int) → ∀ (x1 x2 x3 x4 x5 x6 : Int), x2 = convI .u64 x1 → x1 = r → x3 = mulI .u64 2 x2 → x4 = addI .u64 s x3 → x5 = convI .u64 f → x6 = mulI .u64 4096 x5 → ∀ x7, x7 = addI .u64 x4 x6 → ((x7, (0 : Int), ()) : Int × Int × Unit) = (pkW p r l f, pkE p r l f, ()) := by
    intro h s es x1 x2 x3 x4 x5 x6 e2 e1 e3 e4 e5 e6 x7 e7
    have b := right_bd h
    have b1 := nB_le p
    have b2 := nB_le l
    subst e1
    rw [conv_u64' (by omega) (by omega)] at e2 e5
    rw [mulI_u64 (by omega) (by omega)] at e3 e6
    rw [addI_u64 (by omega) (by omega)] at e4
    rw [addI_u64 (by omega) (by omega)] at e7
    unfold pkW pkE wordI
    rw [if_pos h, if_pos h]
    congr 1
    omega
  refine ⟨_, ga, trivial, brP_intro (fun h w2 h2 => ⟨?_, (h1.allocd _).trans h2⟩) (fun h => ?_)⟩
  · have h' : rightE p r l f = false := by simpa using h
    unfold pkW pkE
    rw [h']; rfl
  · have h' : rightE p r l f = true := by simpa using h
    refine ⟨rfl, p, g0, brP_intro (fun hp => ⟨rfl, l, g2, brP_intro (fun hl s es => ⟨rfl, r, g1, fun x2 e2 x3 e3 x4 e4 => ⟨rfl, f, g3, fun x5 e5 x6 e6 x7 e7 w2 h2 => ⟨?_, (h1.allocd _).trans h2⟩⟩⟩) (fun hl => ⟨rfl, r, g1, fun x2 e2 x3 e3 x4 e4 => ⟨rfl, f, g3, fun x5 e5 x6 e6 x7 e7 w2 h2 => ⟨?_, (h1.allocd _).trans h2⟩⟩⟩)⟩) (fun hp => ⟨rfl, l, g2, brP_intro (fun hl s es => ⟨rfl, r, g1, fun x2 e2 x3 e3 x4 e4 => ⟨rfl, f, g3, fun x5 e5 x6 e6 x7 e7 w2 h2 => ⟨?_, (h1.allocd _).trans h2⟩⟩⟩) (fun hl => ⟨rfl, r, g1, fun x2 e2 x3 e3 x4 e4 => ⟨rfl, f, g3, fun x5 e5 x6 e6 x7 e7 w2 h2 => ⟨?_, (h1.allocd _).trans h2⟩⟩⟩)⟩)⟩
    · refine fin h' s ?_ r x2 x3 x4 x5 x6 e2 rfl e3 e4 e5 e6 x7 e7
      rw [es, hp, hl, addI_u64 (by decide) (by decide)]; decide
    · refine fin h' 1 ?_ r x2 x3 x4 x5 x6 e2 rfl e3 e4 e5 e6 x7 e7
      rw [hp, hl]; decide
    · refine fin h' s ?_ r x2 x3 x4 x5 x6 e2 rfl e3 e4 e5 e6 x7 e7
      rw [es, hp, hl, addI_u64 (by decide) (by decide)]; decide
    · refine fin h' 0 ?_ r x2 x3 x4 x5 x6 e2 rfl e3 e4 e5 e6 x7 e7
      rw [hp, hl]; decide
theorem putAll {w : World} {b : Nat} {l : List Value} (h : Blk w b l) (vs : List Value) (hn : vs.length = l.length) : Blk (putP w (some ⟨b, 0, none⟩) vs) b vs := by
  have := h.put (o := 0) vs (by omega)
  rw [Nat.zero_add, hn, List.drop_length, List.append_nil, List.take_zero, List.nil_append] at this
  exact this
/-! A word, read. -/
def okV (n : Nat) : Bool := decide (n / 32 % 128 = 0) && decide (n / 16777216 % 1099511627776 = 0) && rightE (n % 2 == 1) ((n / 2 % 8 : Nat) : Int) (n / 16 % 2 == 1) ((n / 4096 % 4096 : Nat) : Int)
def prP (n : Nat) : Bool := okV n && n % 2 == 1
def prR (n : Nat) : Int := if okV n = true then ((n / 2 % 8 : Nat) : Int) else 0
def prL (n : Nat) : Bool := okV n && n / 16 % 2 == 1
def prF (n : Nat) : Int := if okV n = true then ((n / 4096 % 4096 : Nat) : Int) else 0
theorem own_lt {w0 w : World} {e : El} {s : Option Addr × Nat × Nat} {xs : List e.T} (h : Own w0 w e s xs) {a : Addr} (ha : s.1 = some a) : a.block < w.heap.size := by
  obtain ⟨_, _, h3⟩ := h
  rcases h3 with ⟨h3, _⟩ | ⟨b, l, h3, _, h4, _⟩
  · rw [h3] at ha; cases ha
  · rw [h3] at ha; cases ha; exact h4.lt
theorem beq_one (n : Nat) : (((n : Nat) : Int) == 1) = (n == 1) := by
  rw [Bool.eq_iff_iff, beq_iff_eq, beq_iff_eq]; omega
theorem pos_nat (n : Nat) : decide (((n : Nat) : Int) > 0) = !decide (n = 0) := by
  rw [Bool.eq_iff_iff, decide_eq_true_eq, Bool.not_eq_true', decide_eq_false_iff_not]; omega
theorem parse_ok (v : BitVec 64) (w : World) : CallsR Try.prog 29 (.tup [.agg [.bool, .int .i64, .bool, .int .i64], .one .bool]) [.int .u64 (U v)] w
    (fun x w' => x = ((prP v.toNat, prR v.toNat, prL v.toNat, prF v.toNat, ()), okV v.toNat, ()) ∧ Ext w w') := by
  refine rxFnR_ok (C := D1) (ann := fun _ => []) (Eq.mpr (parse_vc (U v) w _) ?_)
  intro w1 h1 w2 h2 w3 h3
  have blk : Blk w2 w1.heap.size [Value.bool false, Value.int .i64 0, Value.bool false, Value.int .i64 0] := (Blk.new w1 _ _).ext h2
  have hw2 : Ext w w2 := (h1.allocd _).trans h2
  have hw3 : Ext w w3 := (hw2.allocd _).trans h3
  have sl : Sl w3 eI (some ⟨w2.heap.size, 0, none⟩) [1, 3, 1, 7, 12, 40] := Sl.of_blk ((Blk.new w2 _ _).ext h3) rfl
  refine (split_ok (v := v) (c := 6) sl rfl (by decide)).mono ?_
  rintro ⟨p, n, c⟩ w4 ⟨ho, h4⟩
  rw [split_word] at ho
  have ln : n = 6 := by have := ho.len; simpa [embU] using this
  subst ln
  let N := v.toNat
  have v0 : U (getB v 0 1) = ((N % 2 : Nat) : Int) := by rw [U_eq (get_num 1 2 (by decide) rfl rfl), Nat.div_one]
  have v1 : U (getB v 1 3) = ((N / 2 % 8 : Nat) : Int) := U_eq (get_num 2 8 (by decide) rfl rfl)
  have v2 : U (getB v 4 1) = ((N / 16 % 2 : Nat) : Int) := U_eq (get_num 16 2 (by decide) rfl rfl)
  have v3 : U (getB v 5 7) = ((N / 32 % 128 : Nat) : Int) := U_eq (get_num 32 128 (by decide) rfl rfl)
  have v4 : U (getB v 12 12) = ((N / 4096 % 4096 : Nat) : Int) := U_eq (get_num 4096 4096 (by decide) (by decide) (by decide))
  have v5 : U (getB v 24 40) = ((N / 16777216 % 1099511627776 : Nat) : Int) := U_eq (get_num 16777216 1099511627776 (by decide) (by decide) (by decide))
  have hL : embU ((some [getB v 0 1, getB v 1 3, getB v 4 1, getB v 5 7, getB v 12 12, getB v 24 40]).getD []) = [((N % 2 : Nat) : Int), ((N / 2 % 8 : Nat) : Int), ((N / 16 % 2 : Nat) : Int), ((N / 32 % 128 : Nat) : Int), ((N / 4096 % 4096 : Nat) : Int), ((N / 16777216 % 1099511627776 : Nat) : Int)] := by
    show [U (getB v 0 1), U (getB v 1 3), U (getB v 4 1), U (getB v 5 7), U (getB v 12 12), U (getB v 24 40)] = _
    rw [v0, v1, v2, v3, v4, v5]
  rw [hL] at ho
  have some0 : p.isSome = true := (ho.sl 0 _ rfl).1
  have ix : ∀ i : Int, 0 ≤ i → i < 6 → p.isSome = true ∧ 0 ≤ i ∧ i < ((6 : Nat) : Int) := fun i a b => ⟨some0, a, b⟩
  refine ⟨ix 0 (by decide) (by decide), _, (ho.sl 0 _ rfl).2, ix 1 (by decide) (by decide), _, (ho.sl 1 _ rfl).2, fun x3 e3 => ⟨ix 2 (by decide) (by decide), _, (ho.sl 2 _ rfl).2, ix 4 (by decide) (by decide), _, (ho.sl 4 _ rfl).2, fun x6 e6 w5 h5 w6 h6 => ?_⟩⟩
  rw [conv_i64' (by omega) (by omega)] at e3 e6
  rw [beq_one, beq_one]
  subst e3; subst e6
  have bt : Blk w6 w5.heap.size [Value.bool false, Value.int .i64 0, Value.bool false, Value.int .i64 0] := (Blk.new w5 _ _).ext h6
  refine ⟨⟨rfl, bt.st (by simp)⟩, ?_⟩
  have bp := putAll bt [Value.bool (N % 2 == 1), Value.int .i64 ((N / 2 % 8 : Nat) : Int), Value.bool (N / 16 % 2 == 1), Value.int .i64 ((N / 4096 % 4096 : Nat) : Int)] rfl
  have o6 : Own w3 (putP w6 (some ⟨w5.heap.size, 0, none⟩) [Value.bool (N % 2 == 1), Value.int .i64 ((N / 2 % 8 : Nat) : Int), Value.bool (N / 16 % 2 == 1), Value.int .i64 ((N / 4096 % 4096 : Nat) : Int)]) eU (p, 6, c) _ :=
    ((ho.ext h5).ext ((Ext.alloc _ _).trans h6)).same fun a ha => putAt_ne _ _ ⟨w5.heap.size, 0, none⟩ 0 _ (by
      have := own_lt ho ha
      have := h5.size
      show a.block ≠ w5.heap.size
      omega)
  have hw6 : Ext w w6 := (((hw3.trans h4).trans h5).allocd _).trans h6
  have hw7 : Ext w (putP w6 (some ⟨w5.heap.size, 0, none⟩) [Value.bool (N % 2 == 1), Value.int .i64 ((N / 2 % 8 : Nat) : Int), Value.bool (N / 16 % 2 == 1), Value.int .i64 ((N / 4096 % 4096 : Nat) : Int)]) := hw6.putP (a := ⟨w5.heap.size, 0, none⟩) (((hw3.trans h4).trans h5).size) _
  have ra : rdAt (putP w6 (some ⟨w5.heap.size, 0, none⟩) [Value.bool (N % 2 == 1), Value.int .i64 ((N / 2 % 8 : Nat) : Int), Value.bool (N / 16 % 2 == 1), Value.int .i64 ((N / 4096 % 4096 : Nat) : Int)]) (some ⟨w5.heap.size, 0, none⟩) (.agg [.bool, .int .i64, .bool, .int .i64]) (N % 2 == 1, ((N / 2 % 8 : Nat) : Int), N / 16 % 2 == 1, ((N / 4096 % 4096 : Nat) : Int), ()) :=
    bp.rdA fun i _ => by rw [Nat.zero_add]; rfl
  have lt1 := blk.lt
  have ne1 : w1.heap.size ≠ w5.heap.size := by
    have a1 := h3.size
    have a2 := h4.size
    have a3 := h5.size
    rw [alloc_size] at a1
    omega
  have blk6 : Blk (putP w6 (some ⟨w5.heap.size, 0, none⟩) [Value.bool (N % 2 == 1), Value.int .i64 ((N / 2 % 8 : Nat) : Int), Value.bool (N / 16 % 2 == 1), Value.int .i64 ((N / 4096 % 4096 : Nat) : Int)]) w1.heap.size [Value.bool false, Value.int .i64 0, Value.bool false, Value.int .i64 0] :=
    ((((((blk.ext (Ext.alloc _ _)).ext h3).ext h4).ext h5).ext (Ext.alloc _ _)).ext h6).putNe (a := ⟨w5.heap.size, 0, none⟩) ne1 _
  refine ⟨ix 3 (by decide) (by decide), _, (o6.sl 3 _ rfl).2, fun _ => ix 5 (by decide) (by decide), _, fun _ => (o6.sl 5 _ rfl).2, _, fun _ => ra, fun _ => trivial, ?_⟩
  rw [pos_nat, pos_nat]
  have hok : okV N = !(!decide (N / 32 % 128 = 0) || !decide (N / 16777216 % 1099511627776 = 0) || !rightE (N % 2 == 1) ((N / 2 % 8 : Nat) : Int) (N / 16 % 2 == 1) ((N / 4096 % 4096 : Nat) : Int)) := by
    unfold okV
    cases decide (N / 32 % 128 = 0) <;> cases decide (N / 16777216 % 1099511627776 = 0) <;> cases rightE (N % 2 == 1) ((N / 2 % 8 : Nat) : Int) (N / 16 % 2 == 1) ((N / 4096 % 4096 : Nat) : Int) <;> rfl
  refine brP_intro (fun hb w8 h8 => ?_) (fun hb => ⟨_, ra, fun w8 h8 => ?_⟩)
  · have ho' : okV N = false := by rw [hok, hb]; rfl
    have b8 := blk6.ext h8
    refine ⟨⟨rfl, b8.st (by simp)⟩, fun w9 h9 => ⟨(false, 0, false, 0, ()), ?_, ?_, ?_⟩⟩
    · have b9 := (putAll b8 [Value.bool false, Value.int .i64 0, Value.bool false, Value.int .i64 0] rfl).ext h9
      exact b9.rdA fun i _ => by rw [Nat.zero_add]; rfl
    · show _ = ((prP N, prR N, prL N, prF N, ()), okV N, ())
      unfold prP prR prL prF
      rw [ho']; rfl
    · exact ((hw7.trans h8).putP (a := ⟨w1.heap.size, 0, none⟩) h1.size _).trans h9
  · have ho' : okV N = true := by rw [hok, hb]; rfl
    have b8 := blk6.ext h8
    refine ⟨⟨rfl, b8.st (by simp)⟩, fun w9 h9 => ⟨(N % 2 == 1, ((N / 2 % 8 : Nat) : Int), N / 16 % 2 == 1, ((N / 4096 % 4096 : Nat) : Int), ()), ?_, ?_, ?_⟩⟩
    · have b9 := (putAll b8 [Value.bool (N % 2 == 1), Value.int .i64 ((N / 2 % 8 : Nat) : Int), Value.bool (N / 16 % 2 == 1), Value.int .i64 ((N / 4096 % 4096 : Nat) : Int)] rfl).ext h9
      exact b9.rdA fun i _ => by rw [Nat.zero_add]; rfl
    · show _ = ((prP N, prR N, prL N, prF N, ()), okV N, ())
      unfold prP prR prL prF
      rw [ho', if_pos rfl, if_pos rfl, Bool.true_and, Bool.true_and]
    · exact ((hw7.trans h8).putP (a := ⟨w1.heap.size, 0, none⟩) h1.size _).trans h9
end Go.Proofs.Ytffnfcokgemgjaa
