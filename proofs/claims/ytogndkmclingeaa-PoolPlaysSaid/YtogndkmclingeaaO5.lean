import Derived.Test.YtogndkmclingeaaO4
namespace Go.Proofs.Ytogndkmclingeaa
set_option linter.unusedSimpArgs false
set_option linter.unusedVariables false
open Go.RX
/-- The first frame that is free. -/
def freeI (ds : List DT) : Option Nat := ds.findIdx? fun d => d.1 == 0
def takeF (ds : List DT) (k o : Int) : Int := match freeI ds with
  | none => 0
  | some f => if chE ds f (turnG k o) = 0 then (f : Int) else 0
def takeE (ds : List DT) (k o : Int) : Int := if ds.length = 0 then 10 else match freeI ds with
  | none => 12
  | some f => chE ds f (turnG k o)
def takeL (ds : List DT) (k o : Int) : List DT := match freeI ds with
  | none => ds
  | some f => chL ds f (turnG k o)
theorem takeL_len (ds : List DT) (k o : Int) : (takeL ds k o).length = ds.length := by
  unfold takeL; split
  · rfl
  · exact chL_len _ _ _
theorem free_none {ds : List DT} (h : ∀ (j : Nat) d, ds[j]? = some d → d.1 ≠ 0) : freeI ds = none := by
  unfold freeI
  rw [List.findIdx?_eq_none_iff]
  intro d hd
  obtain ⟨j, hj⟩ := List.getElem?_of_mem hd
  simpa using h j d hj
theorem free_some {ds : List DT} {i : Nat} {d : DT} (hi : ds[i]? = some d) (hd : d.1 = 0) (h : ∀ (j : Nat) d, j < i → ds[j]? = some d → d.1 ≠ 0) : freeI ds = some i := by
  unfold freeI
  have hlt : i < ds.length := (List.getElem?_eq_some_iff.1 hi).1
  rw [List.findIdx?_eq_some_iff_getElem]
  refine ⟨hlt, ?_, fun j hj => ?_⟩
  · have e : ds[i] = d := (List.getElem?_eq_some_iff.1 hi).2
    rw [e]; simpa using hd
  · have := h j ds[j] hj (List.getElem?_eq_getElem (by omega))
    simpa using this
theorem take_ok {w : World} {bp bf n c : Nat} {ds : List DT} {rest : List Value} (hp : Blk w bp [.slice (some ⟨bf, 0, none⟩) n c]) (hf : Blk w bf (flat eD ds ++ rest)) (hne : bp ≠ bf) (hn : n = ds.length) (hlen : n ≤ 4096) (k o : Int) :
    CallsR Try.prog 11 (.tup [.one (.int .i64), .one (.int .i64)]) [.pointer (some ⟨bp, 0, none⟩), .int .i64 k, .int .i64 o] w
      (fun v w' => v = (takeF ds k o, takeE ds k o, ()) ∧ Blk w' bf (flat eD (takeL ds k o) ++ rest) ∧ Fr [bf] w w') := by
  subst hn
  refine rxFnR_ok (C := E0) (ann := take_vc_ann) (Eq.mpr (take_vc _ k o w _) ?_)
  have H := At.start1 hf
  have hp' : bp ∉ [bf] := by simpa using hne
  refine AlP.go H fun b w1 H => AlP.go H fun b1 w2 H => AlP.go H fun b2 w3 H => AlP.go H fun b3 w4 H => AlP.go H fun b4 w5 H => LdP.at 4 H rfl rfl ?_
  refine ⟨(ds.length : Int), QCalls.of (s := .el (.one (.int .i64))) fun w' h => len_ok ((H.old hp hp').ext h), brP_intro (fun c0 => ?_) (fun c0 => LdP.at 4 H rfl rfl ?_)⟩
  · have h0 : ds.length = 0 := by simp only [beq_iff_eq] at c0; omega
    have hd : ds = [] := List.eq_nil_of_length_eq_zero h0
    refine StP.all 1 H rfl rfl rfl fun w6 H => StP.all 0 H rfl rfl rfl fun w7 H => EnP.go H fun w8 H => LdP.at 1 H rfl rfl (LdP.at 0 H rfl rfl ⟨?_, ?_, H.fr⟩)
    · subst hd; rfl
    · subst hd; exact H.get (i := 5) rfl
  have h0 : ds.length ≠ 0 := by simp only [beq_eq_false_iff_ne, ne_eq] at c0; omega
  refine of_at H _ 0 fun pc ic kc w6 H => ?_
  let T : Int → Int → List DT → List (Nat × List Value) := fun x y l => [(ic, [.func (.func 39) #[] #[.pointer (some ⟨kc, 0, none⟩)]]), (pc, [.pointer (some ⟨bp, 0, none⟩)]), (kc, [.int .i64 0]), (b4, [.int .i64 y]), (b3, [.int .i64 x]), (b2, [.int .i64 o]), (b1, [.int .i64 k]), (b, [.pointer (some ⟨bp, 0, none⟩)]), (bf, flat eD l ++ rest)]
  refine RnP.inv H (such1_it (v := 0) (pc := pc) (ic := ic) (kc := kc) (bp := bp) (bf := bf) (c := c) (rest := rest) hlen)
    (fun i L' => L' = T 0 0 ds ∧ ∀ (j : Nat) d, j < i → ds[j]? = some d → d.1 ≠ 0)
    (fun j L' => j = .ret ∧ ∃ i : Nat, freeI ds = some i ∧ L' = T (if chE ds i (turnG k o) = 0 then (i : Int) else 0) (chE ds i (turnG k o)) (chL ds i (turnG k o))) ⟨rfl, fun j d hj => absurd hj (by omega)⟩ ?_ ?_ ?_ ?_ ?_ ?_
  · rintro D' i w' L' ⟨rfl, _⟩ H
    exact ⟨H.get (i := 1) rfl, H.get (i := 0) rfl, H.get (i := 2) rfl, H.old hp hp', H.get (i := 8) rfl⟩
  · rintro i L' hi hy ⟨rfl, hj⟩
    obtain ⟨d, hd, hs⟩ := yv_none (sel := fun d => d.1) hi hy
    refine ⟨rfl, fun j d' hji hd' => ?_⟩
    by_cases e : j = i
    · subst e; rw [hd] at hd'; cases hd'; exact hs
    · exact hj j d' (by omega) hd'
  · intro i x hi hy
    obtain ⟨d, hd, hs, rfl⟩ := yv_some (sel := fun d => d.1) hy
    exact ⟨((i : Nat), ()), rfl⟩
  · rintro i ⟨x1, u⟩ L' hi hy ⟨rfl, hj⟩ r l rec w7 R hr _ h2
    obtain ⟨d, hd, hs, hx⟩ := yv_some (sel := fun d => d.1) hy
    have ex : x1 = ((i : Nat) : Int) := by
      have h : [Value.int .i64 x1] = [Value.int .i64 (i : Nat)] := hx
      simpa using h
    subst ex
    have hfr := free_some hd hs hj
    refine RoP.go hr rfl (BeP.go hr fun wb H hB => LdP.at 7 H rfl rfl (LdP.at 6 H rfl rfl (LdP.at 5 H rfl rfl ?_)))
    refine CaP.mod1 H 8 rfl (fun w8 H => turn_ok (hB.2.1.keep H hp hp') (H.get (i := 8) rfl) hne hlen _ k o) fun w8 H => brP_intro (fun c => ?_) (fun c => ?_)
    · have hc : ¬ chE ds (i : Nat) (turnG k o) = 0 := by simpa using c
      refine StP.all 4 H rfl rfl rfl fun w9 H => StP.all 3 H rfl rfl rfl fun w10 H => FiP.left hB H fun w11 h11 => h2 _ _ w11 ⟨rfl, i, hfr, ?_⟩ h11
      rw [if_neg hc]; rfl
    · have hc : chE ds (i : Nat) (turnG k o) = 0 := by simpa using c
      refine StP.all 4 H rfl rfl rfl fun w9 H => StP.all 3 H rfl rfl rfl fun w10 H => FiP.left hB H fun w11 h11 => h2 _ _ w11 ⟨rfl, i, hfr, ?_⟩ h11
      rw [if_pos hc, hc]; rfl
  · rintro L' r rec w7 ⟨rfl, hj⟩ hr
    have hfr : freeI ds = none := free_none fun j d hd => hj j d (List.getElem?_eq_some_iff.1 hd).1 hd
    refine rxAfter.none hr fun w8 H => StP.all 4 H rfl rfl rfl fun w9 H => StP.all 3 H rfl rfl rfl fun w10 H => ClP.go H fun w11 H => LdP.at 4 H rfl rfl (LdP.at 3 H rfl rfl ⟨?_, ?_, H.fr⟩)
    · unfold takeF takeE; rw [hfr, if_neg h0]
    · have : takeL ds k o = ds := by unfold takeL; rw [hfr]
      rw [this]; exact H.get (i := 8) rfl
  · rintro j L' r rec w7 ⟨rfl, i, hfr, rfl⟩ hr
    refine rxAfter.ret hr fun w8 H => ClP.go H fun w9 H => LdP.at 4 H rfl rfl (LdP.at 3 H rfl rfl ⟨?_, ?_, H.fr⟩)
    · unfold takeF takeE; rw [hfr, if_neg h0]
    · have : takeL ds k o = chL ds i (turnG k o) := by unfold takeL; rw [hfr]
      rw [this]; exact H.get (i := 8) rfl
end Go.Proofs.Ytogndkmclingeaa
