import Derived.Test.YtogndkmclingeaaO3
namespace Go.Proofs.Ytogndkmclingeaa
set_option linter.unusedSimpArgs false
set_option linter.unusedVariables false
open Go.RX
section
variable {D G : List Nat} {w0 w : World} {L : List (Nat × List Value)}
theorem zD_flat (n : Nat) : (List.replicate n [Value.int .i64 0, Value.int .i64 0, Value.int .i64 0, Value.int .i64 0]).flatten = flat eD (List.replicate n zD) ++ [] := by
  rw [List.append_nil, flat_replicate]; rfl
/-- A new pool. -/
theorem pnew_at (H : AtD D G w0 w L) (n : Int) {K : Option Addr × Int × Unit → World → Prop} (hb : n < 1 ∨ n > 4096 → ∀ w1, AtD D G w0 w1 L → K (none, 1, ()) w1)
    (hg : 1 ≤ n → n ≤ 4096 → ∀ bp bf w1, AtD D G w0 w1 ((bp, [.slice (some ⟨bf, 0, none⟩) n.toNat n.toNat]) :: (bf, flat eD (List.replicate n.toNat zD) ++ []) :: L) → K (some ⟨bp, 0, none⟩, 0, ()) w1) :
    CaP Try.prog 9 (.tup [.one .ptr, .one (.int .i64)]) [.int .i64 n] w K := by
  refine CaP.go H fun w1 H => rxFn_ok (C := E0) (ann := fun _ => []) (Eq.mpr (pnew_vc n w1 K) ?_)
  refine brP_intro (fun c => EnP.go H fun w2 H => hb (by simpa using c) w2 H) (fun c => ?_)
  have h1 : 1 ≤ n ∧ n ≤ 4096 := by simp only [Bool.or_eq_false_iff, decide_eq_false_iff_not] at c; omega
  refine MkP.go H rfl (by omega) (by omega) (by omega) (by omega) fun bf w2 H => ?_
  rw [zD_flat] at H
  exact AlP.go H fun bp w3 H => EnP.go H fun w4 H => hg h1.1 h1.2 bp bf w4 H
/-- Another one that stands there. -/
theorem copy_at (H : AtD D G w0 w L) {bp bf n c : Nat} {ds : List DT} {rest : List Value} (hp : Blk w bp [.slice (some ⟨bf, 0, none⟩) n c]) (hf : Blk w bf (flat eD ds ++ rest)) (hn : n = ds.length) (h0 : 0 < n) (hlen : n ≤ 4096) {K : Option Addr → World → Prop}
    (hk : ∀ bp' bf' c' rest' w1, AtD D G w0 w1 ((bp', [.slice (some ⟨bf', 0, none⟩) n c']) :: (bf', flat eD ds ++ rest') :: L) → K (some ⟨bp', 0, none⟩) w1) :
    CallsR Try.prog 24 (.el (.one .ptr)) [.pointer (some ⟨bp, 0, none⟩)] w K := by
  refine rxFn_ok (C := E0) (ann := fun _ => []) (Eq.mpr (copy_vc _ w K) ?_)
  refine ⟨(n : Int), QCalls.of (s := .el (.one (.int .i64))) fun w' h => len_ok (hp.ext h), brP_intro (fun c0 => ?_) (fun c0 => ⟨rfl, rfl, LdP.of (some ⟨bf, 0, none⟩, n, c) (by rw [addP_B]; exact hp.rd1 rfl) fun w1 h1 => ?_⟩)⟩
  · simp only [beq_iff_eq] at c0; omega
  · refine apR.copy (H.ext h1) (e := eD) (ys := ds) (hf.ext h1) ?_ hn (by intro e; subst e; simp at hn; omega) rfl rfl rfl (by omega) fun bf' c' rest' w2 H => AlP.go H fun bp' w3 H => EnP.go H fun w4 H => hk bp' bf' c' rest' w4 H
    rw [List.take_append_of_le_length (by rw [flat_length]; exact Nat.le_refl _), List.take_of_length_le (by rw [flat_length]; exact Nat.le_refl _)]
end
theorem copy_nil (w : World) : CallsR Try.prog 24 (.el (.one .ptr)) [.pointer none] w (fun x w' => x = none ∧ Ext w w') := by
  refine rxFn_ok (C := E0) (ann := fun _ => []) (Eq.mpr (copy_vc _ w _) ?_)
  exact ⟨0, QCalls.of (s := .el (.one (.int .i64))) fun w' h => len_nil w', brP_pos rfl fun w1 h1 => ⟨rfl, h1⟩⟩
/-! ### What is counted -/
def cntL (ds : List DT) (v : Int) : Nat := ds.countP fun d => d.1 == v
def ownL (ds : List DT) (v : Int) : List Nat := (List.range ds.length).filter fun i => match ds[i]? with
  | some d => d.2.1 == v
  | none => false
theorem cnt_take {ds : List DT} {v : Int} {i : Nat} {d : DT} (h : ds[i]? = some d) : cntL (ds.take (i + 1)) v = cntL (ds.take i) v + (if d.1 = v then 1 else 0) := by
  unfold cntL
  rw [List.take_add_one, h, List.countP_append]
  congr 1
  simp
theorem yv_some {ds : List DT} {i : Nat} {v : Int} {sel : DT → Int} {x : List Value} (h : (match ds[i]? with
    | some d => if sel d = v then some [Value.int .i64 (i : Nat)] else none
    | none => none) = some x) : ∃ d, ds[i]? = some d ∧ sel d = v ∧ x = [Value.int .i64 (i : Nat)] := by
  split at h
  · rename_i d hd
    split at h
    · rename_i hs; cases h; exact ⟨d, hd, hs, rfl⟩
    · cases h
  · cases h
theorem yv_none {ds : List DT} {i : Nat} {v : Int} {sel : DT → Int} (hi : i < ds.length) (h : (match ds[i]? with
    | some d => if sel d = v then some [Value.int .i64 (i : Nat)] else none
    | none => none) = none) : ∃ d, ds[i]? = some d ∧ sel d ≠ v := by
  rw [List.getElem?_eq_getElem hi] at h
  refine ⟨ds[i], List.getElem?_eq_getElem hi, ?_⟩
  intro hs
  simp only [hs, if_true] at h
  cases h
theorem count_ok {w : World} {bp bf n c : Nat} {ds : List DT} {rest : List Value} (hp : Blk w bp [.slice (some ⟨bf, 0, none⟩) n c]) (hf : Blk w bf (flat eD ds ++ rest)) (hn : n = ds.length) (hlen : n ≤ 4096) (v : Int) :
    CallsR Try.prog 10 (.el (.one (.int .i64))) [.pointer (some ⟨bp, 0, none⟩), .int .i64 v] w (fun x w' => x = (cntL ds v : Int) ∧ Ext w w') := by
  subst hn
  refine rxFnR_ok (C := E0) (ann := count_vc_ann) (Eq.mpr (count_vc _ v w _) ?_)
  have H := At.start [] w
  refine AlP.go H fun b w1 H => StP.all 0 H rfl rfl rfl fun w2 H => of_at H _ v fun pc ic kc w3 H => ?_
  refine RnP.go H (such1_it (v := v) (pc := pc) (ic := ic) (kc := kc) (bp := bp) (bf := bf) (c := c) (rest := rest) hlen)
    (fun i => [(ic, [.func (.func 39) #[] #[.pointer (some ⟨kc, 0, none⟩)]]), (pc, [.pointer (some ⟨bp, 0, none⟩)]), (kc, [.int .i64 v]), (b, [.int .i64 (cntL (ds.take i) v : Nat)])])
    (fun _ _ => False) rfl ?_ ?_ ?_ ?_ ?_ ?_
  · exact fun D' i w' H => ⟨H.get (i := 1) rfl, H.get (i := 0) rfl, H.get (i := 2) rfl, H.old hp (by simp), H.old hf (by simp)⟩
  · intro i hi hy
    obtain ⟨d, hd, hs⟩ := yv_none hi hy
    simp only [cnt_take hd, if_neg hs, Nat.add_zero]
  · intro i x hi hy
    obtain ⟨d, hd, hs, rfl⟩ := yv_some hy
    exact ⟨((i : Nat), ()), rfl⟩
  · intro i x hi hy r l rec w4 R hr h1 _
    obtain ⟨d, hd, hs, hx⟩ := yv_some hy
    refine RoP.go hr rfl (BeP.go hr fun wb H hB => LdP.at 3 H rfl rfl (StP.all 3 H rfl rfl rfl fun w5 H => FiP.next hB H fun w7 h7 => h1 w7 ?_))
    have hle : cntL (ds.take i) v ≤ 4096 := Nat.le_trans List.countP_le_length (by rw [List.length_take]; omega)
    have e : addI .i64 ((cntL (ds.take i) v : Nat) : Int) 1 = ((cntL (ds.take (i + 1)) v : Nat) : Int) := by
      rw [cnt_take hd, if_pos hs, addI_i64 (by omega) (by omega)]; rfl
    rw [← e]
    exact h7
  · intro r rec w4 hr
    refine rxAfter.none hr fun w5 H => LdP.at 3 H rfl rfl (ClP.go H fun w6 H => ?_)
    exact ⟨by rw [List.take_length], H.all⟩
  · exact fun j L' r rec w4 hq _ => hq.elim
theorem own_take {ds : List DT} {v : Int} {i : Nat} {d : DT} (h : ds[i]? = some d) : ownL (ds.take (i + 1)) v = ownL (ds.take i) v ++ (if d.2.1 = v then [i] else []) := by
  have hi : i < ds.length := (List.getElem?_eq_some_iff.1 h).1
  unfold ownL
  rw [List.length_take, List.length_take, Nat.min_eq_left (by omega), Nat.min_eq_left (by omega), List.range_succ, List.filter_append]
  congr 1
  · apply List.filter_congr
    intro j hj
    have hj' : j < i := by simpa using hj
    rw [List.getElem?_take_of_lt (by omega), List.getElem?_take_of_lt hj']
  · simp only [List.filter_cons, List.filter_nil, List.getElem?_take_of_lt (Nat.lt_succ_self i), h, beq_iff_eq]
def intsN (l : List Nat) : List (Int × Unit) := l.map fun i => ((i : Nat), ())
theorem owned_ok {w : World} {bp bf n c : Nat} {ds : List DT} {rest : List Value} (hp : Blk w bp [.slice (some ⟨bf, 0, none⟩) n c]) (hf : Blk w bf (flat eD ds ++ rest)) (hn : n = ds.length) (hlen : n ≤ 4096) (v : Int) :
    CallsR Try.prog 16 (.el (.one .slice)) [.pointer (some ⟨bp, 0, none⟩), .int .i64 v] w (fun r w' => Own w w' eI r ((ownL ds v).map fun i => ((i : Nat) : Int)) ∧ Ext w w') := by
  subst hn
  refine rxFnR_ok (C := E0) (ann := owned_vc_ann) (Eq.mpr (owned_vc _ v w _) ?_)
  have H := At.start [] w
  refine AlP.go H fun kc w1 H => AlP.go H fun b w2 H => such_at H _ _ fun pc ic w3 H => ?_
  let iL : Nat → List Int := fun i => (ownL (ds.take i) v).map fun i => ((i : Nat) : Int)
  have hiL : ∀ i, (iL i).length ≤ 4096 := fun i => by
    simp only [iL, List.length_map]
    refine Nat.le_trans (List.length_filter_le _ _) ?_
    simp only [List.length_range, List.length_take]; omega
  let T0 : Option Addr × Nat × Nat → List (Nat × List Value) := fun s => [(ic, [.func (.func 36) #[] #[.pointer (some ⟨kc, 0, none⟩)]]), (pc, [.pointer (some ⟨bp, 0, none⟩)]), (b, [.slice s.1 s.2.1 s.2.2]), (kc, [.int .i64 v])]
  let Inv : Nat → List (Nat × List Value) → Prop := fun i L' => ∃ s Ls, L' = Ls ++ T0 s ∧ ((s = (none, 0, 0) ∧ iL i = [] ∧ Ls = []) ∨ ∃ bs cs rs, s = (some ⟨bs, 0, none⟩, (iL i).length, cs) ∧ Ls = [(bs, flat eI (iL i) ++ rs)] ∧ (flat eI (iL i) ++ rs).length = cs * stride eI ∧ (iL i).length ≤ cs)
  refine RnP.inv H (owned_it (v := v) (pc := pc) (ic := ic) (kc := kc) (bp := bp) (bf := bf) (c := c) (rest := rest) hlen) Inv
    (fun _ _ => False) ⟨(none, 0, 0), [], rfl, .inl ⟨rfl, rfl, rfl⟩⟩ ?_ ?_ ?_ ?_ ?_ ?_
  · rintro D' i w' L' ⟨s, Ls, rfl, _⟩ H
    have H := H.sub (List.sublist_append_right Ls (T0 s))
    exact ⟨H.get (i := 1) rfl, H.get (i := 0) rfl, H.get (i := 3) rfl, H.old hp (by simp), H.old hf (by simp)⟩
  · rintro i L' hi hy ⟨s, Ls, rfl, hs⟩
    obtain ⟨d, hd, hne⟩ := yv_none (sel := fun d => d.2.1) hi hy
    have e : iL (i + 1) = iL i := by simp only [iL, own_take hd, if_neg hne, List.append_nil]
    exact ⟨s, Ls, rfl, by rw [e]; exact hs⟩
  · intro i x hi hy
    obtain ⟨d, hd, hs, rfl⟩ := yv_some (sel := fun d => d.2.1) hy
    exact ⟨((i : Nat), ()), rfl⟩
  · rintro i x L' hi hy ⟨s, Ls, rfl, hs⟩ r l rec w4 R hr h1 _
    obtain ⟨d, hd, hsel, hx⟩ := yv_some (sel := fun d => d.2.1) hy
    have ex : x.1 = ((i : Nat) : Int) := by
      have h : [Value.int .i64 x.1] = [Value.int .i64 (i : Nat)] := hx
      simpa using h
    obtain ⟨x1, u⟩ := x
    simp only at ex
    subst ex
    have e : iL (i + 1) = iL i ++ [((i : Nat) : Int)] := by simp only [iL, own_take hd, if_pos hsel, List.map_append, List.map_cons, List.map_nil]
    have hl := hiL i
    have hl' : (iL (i + 1)).length = (iL i).length + 1 := by rw [e]; simp
    refine RoP.go hr rfl (BeP.go hr fun wb H hB => LdP.of s ?_ (AlP.go H fun b2 w5 H => fun w6 h6 => ?_))
    · exact (H.blk (b, [.slice s.1 s.2.1 s.2.2]) (List.mem_append_right _ (by simp [T0]))).rd1 rfl
    · refine AtD.grow (e := eI) (x := ((i : Nat) : Int)) (Ls := Ls) (L0 := T0 s) (H.ext h6) hs rfl rfl rfl (by omega) fun bs cs rs w7 k1 k2 H => ?_
      refine StP.all 3 H rfl rfl rfl fun w8 H => FiP.next hB H fun w9 h9 => h1 _ w9 ⟨(some ⟨bs, 0, none⟩, (iL i).length + 1, cs), [(bs, flat eI (iL (i + 1)) ++ rs)], rfl, .inr ⟨bs, cs, rs, by rw [hl'], rfl, by rw [e]; exact k1, by rw [hl']; exact k2⟩⟩ ?_
      rw [e]; exact h9
  · rintro L' r rec w4 ⟨s, Ls, rfl, hs⟩ hr
    refine rxAfter.none hr fun w5 H => LdP.of s ?_ (ClP.go H fun w6 H => ?_)
    · exact (H.blk (b, [.slice s.1 s.2.1 s.2.2]) (List.mem_append_right _ (by simp [T0]))).rd1 rfl
    · refine ⟨?_, H.all⟩
      have eL : iL ds.length = (ownL ds v).map fun i => ((i : Nat) : Int) := by simp only [iL, List.take_length]
      rw [← eL]
      rcases hs with ⟨rfl, h2, rfl⟩ | ⟨bs, cs, rs, rfl, rfl, h3, h4⟩
      · rw [h2]; exact Own.nil _ _ _
      · refine ⟨rfl, h4, .inr ⟨bs, _, rfl, (H.own _ (List.mem_append_left _ (List.mem_singleton.2 rfl))).resolve_right (by simp), H.get (i := 0) rfl, h3, ?_⟩⟩
        rw [List.take_append_of_le_length (by rw [flat_length]; exact Nat.le_refl _), List.take_of_length_le (by rw [flat_length]; exact Nat.le_refl _)]
  · exact fun j L' r rec w4 hq _ => hq.elim
end Go.Proofs.Ytogndkmclingeaa
