import Derived.Test.YtcnaaobeooiojaaU4
namespace Go.Proofs.Ytcnaaobeooiojaa
set_option linter.unusedSimpArgs false
set_option linter.unusedVariables false
open Go.RX
def Closed (room : Int) (ps : List PT) (bs : List Bool) : Prop := ∀ g i, inR room g i = true → EqAt ps bs g i
theorem set_true_same {bs : List Bool} {k : Nat} (h : bs.getD k false = true) : bs.set k true = bs := by
  apply List.ext_getElem?
  intro n
  by_cases e : k = n
  · subst e
    have hl : k < bs.length := Nat.lt_of_not_le fun hh => by
      rw [List.getD_eq_getElem?_getD, List.getElem?_eq_none hh] at h; cases h
    rw [List.getElem?_set_self hl, List.getElem?_eq_getElem hl]
    rw [List.getD_eq_getElem?_getD, List.getElem?_eq_getElem hl] at h
    simpa using h.symm
  · rw [List.getElem?_set_ne e]
section
variable {D G : List Nat} {w0 w w' : World} {A : List (Nat × List Value)} {bp bl c : Nat} {rb : Nat → Nat} {rest : List Value} {room : Int} {ps : List PT}
theorem ulinked_ok (hU : UB w bp bl c rb rest room ps) (hT : okT room ps) (a b : Int) : CallsR Try.prog 29 (.el (.one .bool)) [.pointer (some ⟨bp, 0, none⟩), .int .i64 a, .int .i64 b] w (fun x w' => x = linkS room ps a b ∧ Ext w w') := by
  refine rxFn_ok (C := R2) (ann := ulinked_vc_ann) (Eq.mpr (ulinked_vc _ a b w _) ?_)
  have hs := hT.tookS
  have hlo := hs.lo
  have hhi := hs.hi
  refine ⟨trivial, fun _ => trivial, brP_intro (fun c w1 h1 => ⟨?_, h1⟩) (fun c => ?_)⟩
  · unfold linkS
    cases ha : gI a with
    | false => rfl
    | true =>
      cases hb2 : gI b with
      | false => rfl
      | true => rw [ha, hb2] at c; cases c
  have hga : gI a = true := by
    cases ha : gI a with
    | false => rw [ha] at c; cases c
    | true => rfl
  have hgb : gI b = true := by
    cases hb2 : gI b with
    | false => rw [hga, hb2] at c; cases c
    | true => rfl
  have ha := gI_iff.1 hga
  have hbr := gI_iff.1 hgb
  have H := At.start [] w
  refine MkP.go H rfl (by decide) (by decide) (by decide) (by decide) fun bb w2 H => ⟨⟨rfl, by omega, by omega⟩, ?_⟩
  have H : At [] w w2 [(bb, bcs (List.replicate 17 false))] := H
  refine tv_st 0 H rfl (by rw [List.length_replicate]; omega) fun w3 H => ?_
  have hS0 : Sound room ps a ((List.replicate 17 false).set a.toNat true) := by
    refine ⟨by simp, ?_, fun v hv ht => ?_⟩
    · rw [tv_set (by omega) (by simp; omega) (by omega), if_pos rfl]
    · rw [tv_set (by omega) (by simp; omega) hv] at ht
      split at ht
      · rename_i e; rw [e]; exact .refl
      · unfold tv at ht
        rw [List.getD_eq_getElem?_getD, List.getElem?_replicate] at ht
        split at ht <;> cases ht
  have hF0 : fal ((List.replicate 17 false).set a.toNat true) = 16 := by
    have := fal_set (bs := List.replicate 17 false) (k := a.toNat) (by simp; omega)
    have e : (List.replicate 17 false).getD a.toNat false = false := by
      rw [List.getD_eq_getElem?_getD, List.getElem?_replicate]; split <;> rfl
    rw [e, if_pos rfl] at this
    have e2 : fal (List.replicate 17 false) = 17 := by decide
    omega
  have H : At [] w w3 [(bb, bcs ((List.replicate 17 false).set a.toNat true))] := H
  generalize (List.replicate 17 false).set a.toNat true = bs at hS0 H hF0
  refine ⟨fun n s w' => ∃ (r : Nat) (bs : List Bool), s.1 = r ∧ n + r = 16 ∧ Sound room ps a bs ∧ (Closed room ps bs ∨ fal bs + r ≤ 16) ∧ At [] w w' [(bb, bcs bs)], ⟨16, fun w4 h4 => ⟨0, bs, rfl, rfl, hS0, .inr (by omega), H.ext h4⟩⟩, ?_⟩
  clear H hS0 hF0 bs
  rintro n ⟨r', u⟩ w4 ⟨r, bs0, hr, hn, hS0, hP, H⟩
  simp only at hr
  subst hr
  dsimp only
  refine brP_intro (fun c1 => ?_) (fun c1 => ?_)
  · have hr16 : r < 16 := by simp at c1; omega
    refine ⟨fun n1 s w' => ∃ (m : Nat) (bs : List Bool), s.1 = m ∧ n1 + m = 16 ∧ Sound room ps a bs ∧ ((bs = bs0 ∧ ∀ g i, inR room g i = true → g ≤ m → EqAt ps bs g i) ∨ (fal bs < fal bs0 ∧ ¬ Closed room ps bs0)) ∧ At [] w w' [(bb, bcs bs)],
      ⟨16, fun w5 h5 => ⟨0, bs0, rfl, rfl, hS0, .inl ⟨rfl, fun g i hi h0 => by have := inR_iff.1 hi; omega⟩, H.ext h5⟩⟩, ?_⟩
    clear H
    rintro n1 ⟨m', u⟩ w5 ⟨m, bs, hm, hn1, hS, hQ, H⟩
    simp only at hm
    subst hm
    dsimp only
    refine brP_intro (fun c2 => ?_) (fun c2 => ?_)
    · have hm16 : m < 16 := by simp at c2; omega
      refine ⟨fun n2 s w' => ∃ (i : Nat) (bs : List Bool), s.1 = i ∧ n2 + i = room.toNat ∧ Sound room ps a bs ∧ ((bs = bs0 ∧ (∀ g i, inR room g i = true → g ≤ m → EqAt ps bs g i) ∧ ∀ j : Nat, j < i → EqAt ps bs ((m : Int) + 1) j) ∨ (fal bs < fal bs0 ∧ ¬ Closed room ps bs0)) ∧ At [] w w' [(bb, bcs bs)],
        ⟨room.toNat, fun w6 h6 => ⟨0, bs, rfl, rfl, hS, hQ.imp (fun h => ⟨h.1, h.2, fun j hj => absurd hj (by omega)⟩) id, H.ext h6⟩⟩, ?_⟩
      clear H hS hQ bs
      rintro n2 ⟨i', u⟩ w6 ⟨i, bs, hi, hn2, hS, hQ, H⟩
      simp only at hi
      subst hi
      dsimp only
      have hU := hU.ext H.all
      have t1 : (some (⟨bl, 0, none⟩ : Addr)).isSome = true ∧ 0 ≤ (m : Int) ∧ (m : Int) < ((16 : Nat) : Int) := ⟨rfl, by omega, by omega⟩
      refine ⟨rfl, rfl, hU.hd ⟨t1, hU.row hm16 (brP_intro (fun c3 => ?_) (fun c3 => ?_))⟩⟩
      · have hlt : i < room.toNat := by simp at c3; omega
        have hltI : (i : Int) < room := by omega
        have e5 : addI .i64 (i : Int) 1 = ((i + 1 : Nat) : Int) := by rw [addI_i64 (by omega) (by omega)]; rfl
        have em : addI .i64 (m : Int) 1 = (m : Int) + 1 := addI_i64 (by omega) (by omega)
        rw [em]
        have t2 : (some (⟨rb m, 0, none⟩ : Addr)).isSome = true ∧ 0 ≤ (i : Int) ∧ (i : Int) < ((room.toNat : Nat) : Int) := ⟨rfl, by omega, by omega⟩
        have hin : inR room ((m : Int) + 1) i = true := inR_iff.2 ⟨by omega, by omega, hltI⟩
        have ekk : ix ((m : Int) + 1) i = m * 32 + i := by unfold ix; omega
        have egp : ps.getD (m * 32 + i) zP = gp ps ((m : Int) + 1) i := by unfold gp; rw [ekk]
        have keepE : EqAt ps bs ((m : Int) + 1) i → (∃ bs', bs' = bs ∧ ((bs' = bs0 ∧ (∀ g i, inR room g i = true → g ≤ m → EqAt ps bs' g i) ∧ ∀ j : Nat, j < i + 1 → EqAt ps bs' ((m : Int) + 1) j) ∨ (fal bs' < fal bs0 ∧ ¬ Closed room ps bs0))) := fun he => ⟨bs, rfl, hQ.imp (fun h => ⟨h.1, h.2.1, fun j hj => by
          rcases Nat.lt_or_ge j i with h1 | h1
          · exact h.2.2 j h1
          · obtain rfl : j = i := by omega
            exact he⟩) id⟩
        refine ⟨rfl, rfl, hU.hd ⟨t1, hU.row hm16 ⟨t2, hU.el hm16 (i := i) hltI ?_⟩⟩⟩
        rw [egp]
        refine AlP.go H fun b1 w7 H => StP.all 0 H rfl rfl rfl fun w8 H => ⟨rfl, LdP.atA 0 H rfl rfl ?_⟩
        have hl17 : bs.length = 17 := hS.1
        have b1r : (some (⟨bb, 0, none⟩ : Addr)).isSome = true ∧ 0 ≤ (m : Int) + 1 ∧ (m : Int) + 1 < ((17 : Nat) : Int) := ⟨rfl, by omega, by omega⟩
        by_cases hz : gp ps ((m : Int) + 1) i = zP
        · obtain ⟨bs', rfl, hQ'⟩ := keepE (fun h => absurd hz h)
          have e0 : decide ((gp ps ((m : Int) + 1) i).1 > 0) = false := by rw [hz]; rfl
          rw [e0]
          refine ⟨fun h => by simp at h, LdP.atA 1 H rfl (tv_el (by rw [hl17]; omega)) ⟨fun h => by simp at h, LdP.atA 0 H rfl rfl ⟨fun h => by simp at h, false, fun h => by simp at h, brP_neg rfl fun w9 h9 => ⟨n2 - 1, by omega, i + 1, bs', e5, by omega, hS, hQ', (H.sub (List.sublist_cons_self _ _)).ext h9⟩⟩⟩⟩
        · have hE : Ed room ps ((m : Int) + 1) (gp ps ((m : Int) + 1) i).2.1 := ⟨i, hin, hz, rfl⟩
          have hrg := hE.rng hT
          have e0 : decide ((gp ps ((m : Int) + 1) i).1 > 0) = true := by
            rcases hT.inv _ _ hin with z | z | z
            · exact absurd z hz
            · rw [z.1]; rfl
            · rw [z.1]; rfl
          rw [e0]
          have b2r : (some (⟨bb, 0, none⟩ : Addr)).isSome = true ∧ 0 ≤ (gp ps ((m : Int) + 1) i).2.1 ∧ (gp ps ((m : Int) + 1) i).2.1 < ((17 : Nat) : Int) := ⟨rfl, by omega, by omega⟩
          refine ⟨fun _ => b1r, LdP.atA 1 H rfl (tv_el (by rw [hl17]; omega)) ⟨fun _ => rfl, LdP.atA 0 H rfl rfl ⟨fun _ => b2r, LdP.atA 1 H rfl (tv_el (by rw [hl17]; omega)) (brP_intro (fun c4 => ?_) (fun c4 => ?_))⟩⟩⟩
          · have hor : tv bs ((m : Int) + 1) = true ∨ tv bs (gp ps ((m : Int) + 1) i).2.1 = true := by simpa using c4
            have hl1 : ((m : Int) + 1).toNat < bs.length := by rw [hl17]; omega
            have hl2 : (gp ps ((m : Int) + 1) i).2.1.toNat < (bs.set ((m : Int) + 1).toNat true).length := by rw [List.length_set, hl17]; omega
            have hlk : Lk room ps a ((m : Int) + 1) ∧ Lk room ps a (gp ps ((m : Int) + 1) i).2.1 := by
              rcases hor with ht | ht
              · have h1 := hS.2.2 ((m : Int) + 1) (by omega) ht
                exact ⟨h1, .fwd h1 hE⟩
              · have h1 := hS.2.2 (gp ps ((m : Int) + 1) i).2.1 (by omega) ht
                exact ⟨.bwd h1 hE, h1⟩
            refine ⟨b1r, tv_st 1 H rfl hl1 fun w9 H => ⟨rfl, LdP.atA 0 H rfl rfl ⟨b2r, tv_st 1 H rfl hl2 fun w10 H w11 h11 => ⟨n2 - 1, by omega, i + 1, _, e5, by omega, (hS.set (by omega) (u := (m : Int) + 1) (by omega) hlk.1).set (by omega) (u := (gp ps ((m : Int) + 1) i).2.1) (by omega) hlk.2, ?_, (H.sub (List.sublist_cons_self _ _)).ext h11⟩⟩⟩⟩
            have f1 := fal_set hl1
            have f2 := fal_set hl2
            have e7 : (bs.set ((m : Int) + 1).toNat true).getD (gp ps ((m : Int) + 1) i).2.1.toNat false = tv bs (gp ps ((m : Int) + 1) i).2.1 := by
              have := tv_set (bs := bs) (u := (m : Int) + 1) (v := (gp ps ((m : Int) + 1) i).2.1) (by omega) hl1 (by omega)
              rw [if_neg (by omega)] at this
              exact this
            have e8 : bs.getD ((m : Int) + 1).toNat false = tv bs ((m : Int) + 1) := rfl
            by_cases heq : tv bs ((m : Int) + 1) = tv bs (gp ps ((m : Int) + 1) i).2.1
            · have ht : tv bs ((m : Int) + 1) = true := hor.elim id (fun h => heq.trans h)
              have s1 : bs.set ((m : Int) + 1).toNat true = bs := set_true_same ht
              have s2 : bs.set (gp ps ((m : Int) + 1) i).2.1.toNat true = bs := set_true_same (heq.symm.trans ht)
              rw [s1, s2]
              obtain ⟨bs', rfl, hQ'⟩ := keepE (fun _ => heq)
              exact hQ'
            · refine .inr ⟨?_, ?_⟩
              · rw [e7] at f2
                rw [e8] at f1
                have hle : fal bs ≤ fal bs0 := by
                  rcases hQ with h | h
                  · rw [h.1]; exact Nat.le_refl _
                  · exact Nat.le_of_lt h.1
                generalize tv bs (gp ps ((m : Int) + 1) i).2.1 = t1 at f2 heq
                generalize tv bs ((m : Int) + 1) = t2 at f1 heq
                have h12 : (t1 = false ∧ t2 = true) ∨ (t1 = true ∧ t2 = false) := by
                  cases t1 <;> cases t2 <;> first | exact absurd rfl heq | exact .inl ⟨rfl, rfl⟩ | exact .inr ⟨rfl, rfl⟩
                rcases h12 with ⟨rfl, rfl⟩ | ⟨rfl, rfl⟩
                · rw [if_pos rfl] at f2
                  rw [if_neg (by decide)] at f1
                  omega
                · rw [if_neg (by decide)] at f2
                  rw [if_pos rfl] at f1
                  omega
              · rcases hQ with h | h
                · intro hc
                  rw [← h.1] at hc
                  exact heq (hc _ _ hin hz)
                · exact h.2
          · have hor : tv bs ((m : Int) + 1) = false ∧ tv bs (gp ps ((m : Int) + 1) i).2.1 = false := by simpa using c4
            obtain ⟨bs', rfl, hQ'⟩ := keepE (fun _ => hor.1.trans hor.2.symm)
            exact fun w9 h9 => ⟨n2 - 1, by omega, i + 1, bs', e5, by omega, hS, hQ', (H.sub (List.sublist_cons_self _ _)).ext h9⟩
      · have hi : i = room.toNat := by simp at c3; omega
        refine fun w7 h7 => ⟨n1 - 1, by omega, m + 1, bs, by rw [addI_i64 (by omega) (by omega)]; rfl, by omega, hS, hQ.imp (fun h => ⟨h.1, fun g j hj hg => ?_⟩) id, H.ext h7⟩
        by_cases e : g ≤ m
        · exact h.2.1 g j hj e
        · have e2 : g = (m : Int) + 1 := by omega
          subst e2
          have hj' := inR_iff.1 hj
          have := h.2.2 j.toNat (by omega)
          rwa [show ((j.toNat : Nat) : Int) = j by omega] at this
    · have hm16 : m = 16 := by simp at c2; omega
      refine fun w6 h6 => ⟨n - 1, by omega, r + 1, bs, by rw [addI_i64 (by omega) (by omega)]; rfl, by omega, hS, ?_, H.ext h6⟩
      rcases hQ with h | h
      · exact .inl fun g i hi => h.2 g i hi (by have := inR_iff.1 hi; omega)
      · rcases hP with h2 | h2
        · exact absurd h2 h.2
        · exact .inr (by omega)
  · have hr16 : r = 16 := by simp at c1; omega
    subst hr16
    refine ⟨⟨rfl, by omega, by omega⟩, LdP.atA 0 H rfl (tv_el (by rw [hS0.1]; omega)) (EnP.go H fun w5 H => ⟨?_, H.all⟩)⟩
    have hC : Closed room ps bs0 := by
      rcases hP with h | h
      · exact h
      · have hall : ∀ x ∈ bs0, x = true := fun x hx => by
          have h0 : fal bs0 = 0 := by omega
          unfold fal at h0
          rw [List.countP_eq_zero] at h0
          simpa using h0 x hx
        have tt : ∀ v : Int, v.toNat < 17 → tv bs0 v = true := fun v hv => by
          unfold tv
          have hl : v.toNat < bs0.length := by rw [hS0.1]; exact hv
          rw [List.getD_eq_getElem?_getD, List.getElem?_eq_getElem hl]
          exact hall _ (List.getElem_mem hl)
        intro g i hi hz
        have hrg := Ed.rng (u := g) (v := (gp ps g i).2.1) hT ⟨i, hi, hz, rfl⟩
        rw [tt g (by omega), tt _ (by omega)]
    have := closed_iff (b := b) hS0 hC (by omega)
    rw [Bool.eq_iff_iff, linkS_iff, this]
    exact ⟨fun h => ⟨hga, hgb, h⟩, fun h => h.2.2⟩
theorem ulinked_q (hU : UB w bp bl c rb rest room ps) (hT : okT room ps) (a b : Int) : QCalls Try.prog 29 [.pointer (some ⟨bp, 0, none⟩), .int .i64 a, .int .i64 b] w (.bool (linkS room ps a b)) :=
  QCalls.of (s := .el (.one .bool)) fun w' h' => ulinked_ok (hU.ext h') hT a b
theorem uplain_ok (d : PT) (w : World) : CallsR Try.prog 32 (.el eQ) [.agg ⟨scsEmb sQ d⟩] w (fun v w' => v = d ∧ Ext w w') := by
  obtain ⟨x1, x2, x3, x4, x5, xu⟩ := d
  refine rxFnR_ok (C := R2) (ann := fun _ => []) (Eq.mpr (uplain_vc x1 x2 x3 x4 x5 w _) ?_)
  have H := At.start [] w
  repeat' (first
    | exact Go.RX.AtD.all H
    | exact And.intro (by first | rfl | decide +kernel) (Go.RX.AtD.all H)
    | refine And.intro (by first | exact rfl | exact trivial | exact fun _ => rfl | exact fun _ => trivial | exact ⟨rfl, by decide, by decide⟩ | exact ⟨by decide, by decide⟩ | decide +kernel | exact fun _ => by decide | exact fun _ => ⟨rfl, by decide, by decide⟩ | (dsimp only [List.length_cons, List.length_nil]; exact ⟨rfl, by decide, by decide⟩)) ?_
    | refine LdP.atA 0 H rfl rfl ?_
    | refine LdP.atA 1 H rfl rfl ?_
    | refine LdP.at 0 H rfl rfl ?_
    | refine LdP.at 1 H rfl rfl ?_
    | refine AlP.go H fun b w1 H => ?_
    | refine StP.all 0 H rfl rfl rfl fun w1 H => ?_
    | refine StP.all 1 H rfl rfl rfl fun w1 H => ?_
    | refine StP.oneA 0 H rfl rfl rfl fun w1 H => ?_
    | refine StP.oneA 1 H rfl rfl rfl fun w1 H => ?_
    | refine StP.one 0 H rfl rfl rfl fun w1 H => ?_
    | refine StP.one 1 H rfl rfl rfl fun w1 H => ?_
    | with_reducible refine EnP.go H fun w1 H => ?_
    | refine shr_go ?_
    | refine brP_pos (by assumption) ?_
    | refine brP_neg (by assumption) ?_
    | refine brP_intro (fun c => ?_) (fun c => ?_))
end
end Go.Proofs.Ytcnaaobeooiojaa
