import Derived.Test.YtogndkmclingeaaO1
namespace Go.Proofs.Ytogndkmclingeaa
set_option linter.unusedSimpArgs false
set_option linter.unusedVariables false
open Go.RX
abbrev sD : List Sc := [.int .i64, .int .i64, .int .i64, .int .i64]
abbrev eD : El := .agg sD
abbrev DT : Type := Int × Int × Int × Int × Unit
def zD : DT := (0, 0, 0, 0, ())
/-- How many frames. -/
theorem len_ok {w : World} {bp n c : Nat} {a : Option Addr} (h : Blk w bp [.slice a n c]) : CallsR Try.prog 18 (.el (.one (.int .i64))) [.pointer (some ⟨bp, 0, none⟩)] w (fun x w' => x = (n : Int) ∧ Ext w w') := by
  refine rxFn_ok (C := E0) (ann := fun _ => []) (Eq.mpr (len_vc _ w _) ?_)
  have H := At.start [] w
  refine brP_neg rfl ⟨rfl, rfl, LdP.oldA H h (by simp) rfl ?_⟩
  repeat' (first
    | exact Go.RX.AtD.all H
    | exact And.intro (by first | rfl | decide +kernel) (Go.RX.AtD.all H)
    | refine And.intro (by first | exact rfl | exact trivial | exact fun _ => rfl | exact fun _ => trivial | exact ⟨rfl, by decide, by decide⟩ | exact ⟨by decide, by decide⟩ | decide +kernel | exact fun _ => by decide | exact fun _ => ⟨rfl, by decide, by decide⟩ | (dsimp only [List.length_cons, List.length_nil]; exact ⟨rfl, by decide, by decide⟩)) ?_
    | refine LdP.atA 0 H rfl rfl ?_
    | refine LdP.at 0 H rfl rfl ?_
    | refine AlP.go H fun b w1 H => ?_
    | refine StP.all 0 H rfl rfl rfl fun w1 H => ?_
    | refine StP.oneA 0 H rfl rfl rfl fun w1 H => ?_
    | refine StP.one 0 H rfl rfl rfl fun w1 H => ?_
    | with_reducible refine EnP.go H fun w1 H => ?_
    | refine shr_go ?_
    | refine brP_pos (by assumption) ?_
    | refine brP_neg (by assumption) ?_
    | refine brP_intro (fun c => ?_) (fun c => ?_))
theorem len_nil (w : World) : CallsR Try.prog 18 (.el (.one (.int .i64))) [.pointer none] w (fun x w' => x = 0 ∧ Ext w w') := by
  refine rxFn_ok (C := E0) (ann := fun _ => []) (Eq.mpr (len_vc _ w _) ?_)
  have H := At.start [] w
  refine brP_pos rfl ?_
  repeat' (first
    | exact Go.RX.AtD.all H
    | exact And.intro (by first | rfl | decide +kernel) (Go.RX.AtD.all H)
    | refine And.intro (by first | exact rfl | exact trivial | exact fun _ => rfl | exact fun _ => trivial | exact ⟨rfl, by decide, by decide⟩ | exact ⟨by decide, by decide⟩ | decide +kernel | exact fun _ => by decide | exact fun _ => ⟨rfl, by decide, by decide⟩ | (dsimp only [List.length_cons, List.length_nil]; exact ⟨rfl, by decide, by decide⟩)) ?_
    | refine LdP.atA 0 H rfl rfl ?_
    | refine LdP.at 0 H rfl rfl ?_
    | refine AlP.go H fun b w1 H => ?_
    | refine StP.all 0 H rfl rfl rfl fun w1 H => ?_
    | refine StP.oneA 0 H rfl rfl rfl fun w1 H => ?_
    | refine StP.one 0 H rfl rfl rfl fun w1 H => ?_
    | with_reducible refine EnP.go H fun w1 H => ?_
    | refine shr_go ?_
    | refine brP_pos (by assumption) ?_
    | refine brP_neg (by assumption) ?_
    | refine brP_intro (fun c => ?_) (fun c => ?_))
theorem of1_ok {w : World} {kc : Nat} {v : Int} (h : Blk w kc [.int .i64 v]) (d : DT) : CallsR Try.prog 39 (.el (.one .bool)) [.agg ⟨scsEmb sD d⟩, .pointer (some ⟨kc, 0, none⟩)] w (fun x w' => x = (d.1 == v) ∧ Ext w w') := by
  obtain ⟨k, o, r, e, u⟩ := d
  refine rxFn_ok (C := E0) (ann := fun _ => []) (Eq.mpr (of1_vc k o r e _ w _) ?_)
  have H := At.start [] w
  repeat' (first
    | refine LdP.old H h (by simp) rfl ?_
    | exact Go.RX.AtD.all H
    | exact And.intro (by first | rfl | decide +kernel) (Go.RX.AtD.all H)
    | refine And.intro (by first | exact rfl | exact trivial | exact fun _ => rfl | exact fun _ => trivial | exact ⟨rfl, by decide, by decide⟩ | exact ⟨by decide, by decide⟩ | decide +kernel | exact fun _ => by decide | exact fun _ => ⟨rfl, by decide, by decide⟩ | (dsimp only [List.length_cons, List.length_nil]; exact ⟨rfl, by decide, by decide⟩)) ?_
    | refine LdP.atA 0 H rfl rfl ?_
    | refine LdP.at 0 H rfl rfl ?_
    | refine AlP.go H fun b w1 H => ?_
    | refine StP.all 0 H rfl rfl rfl fun w1 H => ?_
    | refine StP.oneA 0 H rfl rfl rfl fun w1 H => ?_
    | refine StP.one 0 H rfl rfl rfl fun w1 H => ?_
    | with_reducible refine EnP.go H fun w1 H => ?_
    | refine shr_go ?_
    | refine brP_pos (by assumption) ?_
    | refine brP_neg (by assumption) ?_
    | refine brP_intro (fun c => ?_) (fun c => ?_))
theorem owned1_ok {w : World} {kc : Nat} {v : Int} (h : Blk w kc [.int .i64 v]) (d : DT) : CallsR Try.prog 36 (.el (.one .bool)) [.agg ⟨scsEmb sD d⟩, .pointer (some ⟨kc, 0, none⟩)] w (fun x w' => x = (d.2.1 == v) ∧ Ext w w') := by
  obtain ⟨k, o, r, e, u⟩ := d
  refine rxFn_ok (C := E0) (ann := fun _ => []) (Eq.mpr (owned1_vc k o r e _ w _) ?_)
  have H := At.start [] w
  repeat' (first
    | refine LdP.old H h (by simp) rfl ?_
    | exact Go.RX.AtD.all H
    | exact And.intro (by first | rfl | decide +kernel) (Go.RX.AtD.all H)
    | refine And.intro (by first | exact rfl | exact trivial | exact fun _ => rfl | exact fun _ => trivial | exact ⟨rfl, by decide, by decide⟩ | exact ⟨by decide, by decide⟩ | decide +kernel | exact fun _ => by decide | exact fun _ => ⟨rfl, by decide, by decide⟩ | (dsimp only [List.length_cons, List.length_nil]; exact ⟨rfl, by decide, by decide⟩)) ?_
    | refine LdP.atA 0 H rfl rfl ?_
    | refine LdP.at 0 H rfl rfl ?_
    | refine AlP.go H fun b w1 H => ?_
    | refine StP.all 0 H rfl rfl rfl fun w1 H => ?_
    | refine StP.oneA 0 H rfl rfl rfl fun w1 H => ?_
    | refine StP.one 0 H rfl rfl rfl fun w1 H => ?_
    | with_reducible refine EnP.go H fun w1 H => ?_
    | refine shr_go ?_
    | refine brP_pos (by assumption) ?_
    | refine brP_neg (by assumption) ?_
    | refine brP_intro (fun c => ?_) (fun c => ?_))
section
variable {D G : List Nat} {w0 w : World} {L : List (Nat × List Value)}
/-- The frames of a kind, to be ranged over. -/
theorem of_at (H : AtD D G w0 w L) (p : Option Addr) (k : Int) {K : Option Addr × Option Addr × Unit → World → Prop}
    (hk : ∀ pc ic kc w1, AtD D G w0 w1 ((ic, [.func (.func 39) #[] #[.pointer (some ⟨kc, 0, none⟩)]]) :: (pc, [.pointer p]) :: (kc, [.int .i64 k]) :: L) → K (some ⟨pc, 0, none⟩, some ⟨ic, 0, none⟩, ()) w1) :
    CaP Try.prog 29 cloS [.pointer p, .int .i64 k] w K := by
  refine CaP.go H fun w1 H => rxFn_ok (C := E0) (ann := fun _ => []) (Eq.mpr (of_vc p k w1 K) ?_)
  refine AlP.go H fun kc w2 H => CaP.go H fun w3 H => rxFn_ok (C := E0) (ann := fun _ => []) (Eq.mpr (such_vc p _ w3 _) ?_)
  refine AlP.go H fun pc w4 H => AlP.go H fun ic w5 H => EnP.go H fun w6 H => EnP.go H fun w7 H => ?_
  exact hk pc ic kc w7 H
/-- An owner's frames, to be ranged over. -/
theorem such_at (H : AtD D G w0 w L) (p c : Option Addr) {K : Option Addr × Option Addr × Unit → World → Prop}
    (hk : ∀ pc ic w1, AtD D G w0 w1 ((ic, [.func (.func 36) #[] #[.pointer c]]) :: (pc, [.pointer p]) :: L) → K (some ⟨pc, 0, none⟩, some ⟨ic, 0, none⟩, ()) w1) :
    CaP Try.prog 35 cloS [.pointer p, .func (.func 36) #[] #[.pointer c]] w K := by
  refine CaP.go H fun w1 H => rxFn_ok (C := E0) (ann := fun _ => []) (Eq.mpr (such_vc2 p c w1 K) ?_)
  refine AlP.go H fun pc w4 H => AlP.go H fun ic w5 H => EnP.go H fun w6 H => ?_
  exact hk pc ic w6 H
end
/-- What a range over frames leans on. -/
def SuchSt (fn : FuncId) (pc ic kc bp bf c : Nat) (v : Int) (ds : List DT) (rest : List Value) (w : World) : Prop :=
  Blk w pc [.pointer (some ⟨bp, 0, none⟩)] ∧ Blk w ic [.func (.func fn) #[] #[.pointer (some ⟨kc, 0, none⟩)]] ∧ Blk w kc [.int .i64 v] ∧ Blk w bp [.slice (some ⟨bf, 0, none⟩) ds.length c] ∧ Blk w bf (flat eD ds ++ rest)
theorem such1_it {pc ic kc bp bf c : Nat} {v : Int} {ds : List DT} {rest : List Value} (hlen : ds.length ≤ 4096) :
    ItOk Try.prog 42 (fun y => [.func (.yield y) #[] #[], .pointer (some ⟨pc, 0, none⟩), .pointer (some ⟨ic, 0, none⟩)]) ds.length
      (fun i => match ds[i]? with
        | some d => if d.1 = v then some [.int .i64 (i : Nat)] else none
        | none => none) (SuchSt 39 pc ic kc bp bf c v ds rest) := by
  intro y w J Dn hJ hD hS hskip hyield h0
  have key : CallsR Try.prog 42 (shF E1 42) [.func (.yield y) #[] #[], .pointer (some ⟨pc, 0, none⟩), .pointer (some ⟨ic, 0, none⟩)] w (fun _ w' => J ds.length w' ∨ Dn w') := by
    refine rxFn_ok (C := E1) (ann := such1_vc_ann) (Eq.mpr (such1_vc y _ _ w _) ?_)
    obtain ⟨s1, s2, s3, s4, s5⟩ := hS 0 w h0
    refine LdP.of _ (s1.rd1 rfl) (brP_neg rfl (LdP.of _ (s1.rd1 rfl) ⟨rfl, rfl, LdP.of (some ⟨bf, 0, none⟩, ds.length, c) (by rw [addP_B]; exact s4.rd1 rfl) ?_⟩))
    refine ⟨fun n s w' => ∃ i : Nat, s.1 = i ∧ n + i = ds.length ∧ J i w', ⟨ds.length, fun w1 h1 => ⟨0, rfl, rfl, hJ _ _ _ h0 h1⟩⟩, ?_⟩
    rintro n ⟨i', u⟩ w1 ⟨i, hi, hn, hj⟩
    simp only at hi
    subst hi
    dsimp only
    refine brP_intro (fun c => ?_) (fun c => ?_)
    · have hlt : i < ds.length := by simp only [decide_eq_true_eq] at c; omega
      obtain ⟨s1, s2, s3, s4, s5⟩ := hS i w1 hj
      have hget : ds[i]? = some ds[i] := List.getElem?_eq_getElem hlt
      refine ⟨⟨rfl, by omega, by omega⟩, LdP.of ds[i] (rd_flat s5 hget) ?_⟩
      have H := At.start [] w1
      have next : ∀ w', J (i + 1) w' → ∀ w3, Ext w' w3 → ∃ n', n' < n ∧ ∃ j : Nat, addI .i64 (i : Nat) 1 = j ∧ n' + j = ds.length ∧ J j w3 := fun w' hj' w3 h3 =>
        ⟨n - 1, by omega, i + 1, by rw [addI_i64 (by omega) (by omega)]; rfl, by omega, hJ _ _ _ hj' h3⟩
      generalize hd : ds[i] = d
      rw [hd] at hget
      refine AlP.go H fun b w2 H => StP.all 0 H rfl rfl rfl fun w2 H => LdP.of (some ⟨kc, 0, none⟩, ()) ((H.old s2 (by simp)).rd1 rfl) (LdP.at 0 H rfl rfl ?_)
      have hj2 := hJ _ _ _ hj H.all
      refine ⟨d.1 == v, QCalls.of (s := .el (.one .bool)) fun w' h' => of1_ok ((H.old s3 (by simp)).ext h') d, brP_intro (fun c => fun w3 h3 => ?_) (fun c => ?_)⟩
      · refine hyield i _ hlt (by simp only [hget]; rw [if_pos (by simpa using c)]) w3 _ (hJ _ _ _ hj2 h3) (fun w' hj' => ?_) (fun w' hd' => ?_)
        · exact brP_neg rfl (next w' hj')
        · exact brP_pos rfl fun w4 h4 => .inr (hD _ _ hd' h4)
      · exact next _ (hskip i hlt (by simp only [hget]; rw [if_neg (by simpa using c)]) _ hj2)
    · have : i = ds.length := by simp only [decide_eq_false_iff_not] at c; omega
      subst this
      exact fun w2 h2 => .inl (hJ _ _ _ hj h2)
  exact Calls.mono key fun e w' ⟨x, he, hj⟩ => ⟨_, he, hj⟩
theorem owned_it {pc ic kc bp bf c : Nat} {v : Int} {ds : List DT} {rest : List Value} (hlen : ds.length ≤ 4096) :
    ItOk Try.prog 42 (fun y => [.func (.yield y) #[] #[], .pointer (some ⟨pc, 0, none⟩), .pointer (some ⟨ic, 0, none⟩)]) ds.length
      (fun i => match ds[i]? with
        | some d => if d.2.1 = v then some [.int .i64 (i : Nat)] else none
        | none => none) (SuchSt 36 pc ic kc bp bf c v ds rest) := by
  intro y w J Dn hJ hD hS hskip hyield h0
  have key : CallsR Try.prog 42 (shF E2 42) [.func (.yield y) #[] #[], .pointer (some ⟨pc, 0, none⟩), .pointer (some ⟨ic, 0, none⟩)] w (fun _ w' => J ds.length w' ∨ Dn w') := by
    refine rxFn_ok (C := E2) (ann := such1_vc2_ann) (Eq.mpr (such1_vc2 y _ _ w _) ?_)
    obtain ⟨s1, s2, s3, s4, s5⟩ := hS 0 w h0
    refine LdP.of _ (s1.rd1 rfl) (brP_neg rfl (LdP.of _ (s1.rd1 rfl) ⟨rfl, rfl, LdP.of (some ⟨bf, 0, none⟩, ds.length, c) (by rw [addP_B]; exact s4.rd1 rfl) ?_⟩))
    refine ⟨fun n s w' => ∃ i : Nat, s.1 = i ∧ n + i = ds.length ∧ J i w', ⟨ds.length, fun w1 h1 => ⟨0, rfl, rfl, hJ _ _ _ h0 h1⟩⟩, ?_⟩
    rintro n ⟨i', u⟩ w1 ⟨i, hi, hn, hj⟩
    simp only at hi
    subst hi
    dsimp only
    refine brP_intro (fun c => ?_) (fun c => ?_)
    · have hlt : i < ds.length := by simp only [decide_eq_true_eq] at c; omega
      obtain ⟨s1, s2, s3, s4, s5⟩ := hS i w1 hj
      have hget : ds[i]? = some ds[i] := List.getElem?_eq_getElem hlt
      refine ⟨⟨rfl, by omega, by omega⟩, LdP.of ds[i] (rd_flat s5 hget) ?_⟩
      have H := At.start [] w1
      have next : ∀ w', J (i + 1) w' → ∀ w3, Ext w' w3 → ∃ n', n' < n ∧ ∃ j : Nat, addI .i64 (i : Nat) 1 = j ∧ n' + j = ds.length ∧ J j w3 := fun w' hj' w3 h3 =>
        ⟨n - 1, by omega, i + 1, by rw [addI_i64 (by omega) (by omega)]; rfl, by omega, hJ _ _ _ hj' h3⟩
      generalize hd : ds[i] = d
      rw [hd] at hget
      refine AlP.go H fun b w2 H => StP.all 0 H rfl rfl rfl fun w2 H => LdP.of (some ⟨kc, 0, none⟩, ()) ((H.old s2 (by simp)).rd1 rfl) (LdP.at 0 H rfl rfl ?_)
      have hj2 := hJ _ _ _ hj H.all
      refine ⟨d.2.1 == v, QCalls.of (s := .el (.one .bool)) fun w' h' => owned1_ok ((H.old s3 (by simp)).ext h') d, brP_intro (fun c => fun w3 h3 => ?_) (fun c => ?_)⟩
      · refine hyield i _ hlt (by simp only [hget]; rw [if_pos (by simpa using c)]) w3 _ (hJ _ _ _ hj2 h3) (fun w' hj' => ?_) (fun w' hd' => ?_)
        · exact brP_neg rfl (next w' hj')
        · exact brP_pos rfl fun w4 h4 => .inr (hD _ _ hd' h4)
      · exact next _ (hskip i hlt (by simp only [hget]; rw [if_neg (by simpa using c)]) _ hj2)
    · have : i = ds.length := by simp only [decide_eq_false_iff_not] at c; omega
      subst this
      exact fun w2 h2 => .inl (hJ _ _ _ hj h2)
  exact Calls.mono key fun e w' ⟨x, he, hj⟩ => ⟨_, he, hj⟩
end Go.Proofs.Ytogndkmclingeaa
