import Derived.Test.YtcnaaobeooiojaaT7
namespace Go.Proofs.Ytcnaaobeooiojaa
set_option linter.unusedSimpArgs false
set_option linter.unusedVariables false
open Go.RX
/-! ### Who has to do with whom -/
def Ed (room : Int) (ps : List PT) (u v : Int) : Prop := ∃ i, inR room u i = true ∧ gp ps u i ≠ zP ∧ (gp ps u i).2.1 = v
inductive Lk (room : Int) (ps : List PT) (a : Int) : Int → Prop
  | refl : Lk room ps a a
  | fwd {u v : Int} : Lk room ps a u → Ed room ps u v → Lk room ps a v
  | bwd {u v : Int} : Lk room ps a v → Ed room ps u v → Lk room ps a u
open Classical in
noncomputable def linkS (room : Int) (ps : List PT) (a b : Int) : Bool := gI a && (gI b && decide (Lk room ps a b))
theorem linkS_iff {room : Int} {ps : List PT} {a b : Int} : linkS room ps a b = true ↔ gI a = true ∧ gI b = true ∧ Lk room ps a b := by
  unfold linkS; simp
theorem Lk.sub {room : Int} {ps ps' : List PT} {a v : Int} (h : Lk room ps a v) (hE : ∀ u v, Ed room ps u v → Ed room ps' u v) : Lk room ps' a v := by
  induction h with
  | refl => exact .refl
  | fwd _ e ih => exact .fwd ih (hE _ _ e)
  | bwd _ e ih => exact .bwd ih (hE _ _ e)
theorem Lk.inv {room : Int} {ps : List PT} {a v : Int} (h : Lk room ps a v) (S : Int → Prop) (ha : S a) (hS : ∀ u v, Ed room ps u v → (S u ↔ S v)) : S v := by
  induction h with
  | refl => exact ha
  | fwd _ e ih => exact (hS _ _ e).1 ih
  | bwd _ e ih => exact (hS _ _ e).2 ih
theorem Ed.rng {room : Int} {ps : List PT} (hT : okT room ps) {u v : Int} (h : Ed room ps u v) : (1 ≤ u ∧ u ≤ 16) ∧ (1 ≤ v ∧ v ≤ 16) ∧ u ≠ v := by
  obtain ⟨i, hi, hz, rfl⟩ := h
  refine ⟨(inR_iff.1 hi).1, ?_⟩
  rcases hT.inv u i hi with z | ⟨_, z2, z3, _⟩ | ⟨_, z2, z3, _⟩
  · exact absurd z hz
  · exact ⟨z2, fun e => z3 e.symm⟩
  · exact ⟨(inR_iff.1 z3).1, fun e => z2 e.symm⟩
theorem Lk.rng {room : Int} {ps : List PT} (hT : okT room ps) {a v : Int} (ha : 1 ≤ a ∧ a ≤ 16) (h : Lk room ps a v) : 1 ≤ v ∧ v ≤ 16 :=
  h.inv (fun v => 1 ≤ v ∧ v ≤ 16) ha fun _ _ e => ⟨fun _ => (e.rng hT).2.1, fun _ => (e.rng hT).1⟩
def tv (bs : List Bool) (v : Int) : Bool := bs.getD v.toNat false
def bcs (bs : List Bool) : List Value := bs.map Value.bool
theorem tv_el {bs : List Bool} {v : Int} (h : v.toNat < bs.length) : elAt (bcs bs) (0 + v.toNat * 1) (.one .bool) = some (tv bs v) := by
  have : (bcs bs)[0 + v.toNat * 1]? = some (.bool (tv bs v)) := by
    unfold bcs tv
    rw [Nat.zero_add, Nat.mul_one, List.getElem?_map, List.getElem?_eq_getElem h, List.getD_eq_getElem?_getD, List.getElem?_eq_getElem h]; rfl
  show (match (bcs bs)[0 + v.toNat * 1]? with | some v => Sc.bool.proj v | none => none) = _
  rw [this]; rfl
theorem tv_set {bs : List Bool} {u v : Int} (hu : 0 ≤ u) (hl : u.toNat < bs.length) (hv : 0 ≤ v) : tv (bs.set u.toNat true) v = if v = u then true else tv bs v := by
  unfold tv
  by_cases e : v = u
  · subst e; rw [if_pos rfl]; simp [List.getD_eq_getElem?_getD, hl]
  · rw [if_neg e]
    have : u.toNat ≠ v.toNat := by omega
    simp [List.getD_eq_getElem?_getD, List.getElem?_set_ne this]
def fal (bs : List Bool) : Nat := bs.countP (! ·)
theorem fal_set {bs : List Bool} {k : Nat} (hl : k < bs.length) : fal (bs.set k true) + (if bs.getD k false = false then 1 else 0) = fal bs := by
  unfold fal
  rw [List.countP_set hl]
  have e : bs.getD k false = bs[k] := by rw [List.getD_eq_getElem?_getD, List.getElem?_eq_getElem hl]; rfl
  rw [e]
  cases h : bs[k] with
  | true => simp
  | false =>
    have : 0 < bs.countP (! ·) := List.countP_pos_iff.2 ⟨bs[k], List.getElem_mem hl, by rw [h]; rfl⟩
    simp; omega
theorem fal_set_le {bs : List Bool} {k : Nat} (hl : k < bs.length) : fal (bs.set k true) ≤ fal bs := by have := fal_set hl; omega
def Sound (room : Int) (ps : List PT) (a : Int) (bs : List Bool) : Prop := bs.length = 17 ∧ tv bs a = true ∧ ∀ v, 0 ≤ v → tv bs v = true → Lk room ps a v
theorem Sound.set {room : Int} {ps : List PT} {a : Int} {bs : List Bool} (h : Sound room ps a bs) (ha : 0 ≤ a) {u : Int} (hu : 0 ≤ u ∧ u ≤ 16) (hl : Lk room ps a u) : Sound room ps a (bs.set u.toNat true) := by
  have hu2 : u.toNat < bs.length := by rw [h.1]; omega
  refine ⟨by rw [List.length_set]; exact h.1, ?_, fun v hv ht => ?_⟩
  · rw [tv_set hu.1 hu2 ha]
    split
    · rfl
    · exact h.2.1
  · rw [tv_set hu.1 hu2 hv] at ht
    split at ht
    · rename_i e; rw [e]; exact hl
    · exact h.2.2 v hv ht
def EqAt (ps : List PT) (bs : List Bool) (g i : Int) : Prop := gp ps g i ≠ zP → tv bs g = tv bs (gp ps g i).2.1
theorem closed_iff {room : Int} {ps : List PT} {a b : Int} {bs : List Bool} (hs : Sound room ps a bs) (hc : ∀ g i, inR room g i = true → EqAt ps bs g i) (hb : 0 ≤ b) : tv bs b = true ↔ Lk room ps a b := by
  refine ⟨hs.2.2 b hb, fun h => h.inv (fun v => tv bs v = true) hs.2.1 ?_⟩
  rintro u v ⟨i, hi, hz, rfl⟩
  have := hc u i hi hz
  show tv bs u = true ↔ tv bs (gp ps u i).2.1 = true
  rw [this]
section
variable {D G : List Nat} {w0 w : World} {L : List (Nat × List Value)} {bp : Nat} {room : Int} {ps : List PT}
theorem tv_st (j : Nat) (H : AtD D G w0 w L) {b : Nat} {bs : List Bool} {v : Int} (hL : L[j]? = some (b, bcs bs)) (hl : v.toNat < bs.length) {K : World → Prop}
    (hK : ∀ w1, AtD D G w0 w1 (L.set j (b, bcs (bs.set v.toNat true))) → K w1) : StP w (addP (some ⟨b, 0, none⟩) (v.toNat * 1)) [.bool true] K := by
  refine StP.oneA j H hL rfl ?_ fun w1 h1 => hK w1 ?_
  · rw [Nat.blt_eq]; unfold bcs; rw [List.length_map]; omega
  · have e : (bcs bs).set (0 + v.toNat * 1) (.bool true) = bcs (bs.set v.toNat true) := by unfold bcs; rw [List.map_set, Nat.zero_add, Nat.mul_one]
    rw [e] at h1; exact h1
theorem plinked_ok (hb : Blk w bp (pcs room ps)) (hT : okT room ps) (a b : Int) : CallsR Try.prog 28 (.el (.one .bool)) [.pointer (some ⟨bp, 0, none⟩), .int .i64 a, .int .i64 b] w (fun x w' => x = linkS room ps a b ∧ Ext w w') := by
  refine rxFn_ok (C := R1) (ann := plinked_vc_ann) (Eq.mpr (plinked_vc _ a b w _) ?_)
  have hs := hT.tookS
  have hlo := hs.lo
  have hhi := hs.hi
  refine ⟨true, QCalls.of (s := .el (.one .bool)) fun w' h' => there_ok (hb.ext h') hs, fun _ => trivial, fun _ => trivial, brP_intro (fun c w1 h1 => ⟨?_, h1⟩) (fun c => ?_)⟩
  · unfold linkS
    cases ha : gI a with
    | false => rfl
    | true =>
      cases hb2 : gI b with
      | false => rfl
      | true => rw [ha, hb2] at c; cases c
  have hga : gI a = true := by
    cases ha : gI a with
    | false => rw [ha] at c; cases c
    | true => rfl
  have hgb : gI b = true := by
    cases hb2 : gI b with
    | false => rw [hga, hb2] at c; cases c
    | true => rfl
  have ha := gI_iff.1 hga
  have hbr := gI_iff.1 hgb
  have H := At.start [] w
  refine AlP.go H fun bb w2 H => ⟨⟨rfl, by omega, by omega⟩, ?_⟩
  have H : At [] w w2 [(bb, bcs (List.replicate 17 false))] := H
  refine tv_st 0 H rfl (by rw [List.length_replicate]; omega) fun w3 H => ?_
  have hS0 : Sound room ps a ((List.replicate 17 false).set a.toNat true) := by
    refine ⟨by simp, ?_, fun v hv ht => ?_⟩
    · rw [tv_set (by omega) (by simp; omega) (by omega), if_pos rfl]
    · rw [tv_set (by omega) (by simp; omega) hv] at ht
      split at ht
      · rename_i e; rw [e]; exact .refl
      · unfold tv at ht
        rw [List.getD_eq_getElem?_getD, List.getElem?_replicate] at ht
        split at ht <;> cases ht
  have H : At [] w w3 [(bb, bcs ((List.replicate 17 false).set a.toNat true))] := H
  generalize (List.replicate 17 false).set a.toNat true = bs at hS0 H
  refine ⟨fun n s w' => ∃ bs, Sound room ps a bs ∧ n = fal bs + (if s.1 = true then 1 else 0) ∧ (s.1 = false → ∀ g i, inR room g i = true → EqAt ps bs g i) ∧ At [] w w' [(bb, bcs bs)], ⟨fal bs + 1, fun w4 h4 => ⟨bs, hS0, rfl, (fun h => by cases h), H.ext h4⟩⟩, ?_⟩
  clear H hS0 bs
  rintro n ⟨more, u⟩ w4 ⟨bs0, hS0, hn, hcl, H⟩
  simp only at hn hcl
  dsimp only
  cases more with
  | false =>
    refine brP_neg rfl ⟨⟨rfl, by omega, by omega⟩, LdP.atA 0 H rfl (tv_el (by rw [hS0.1]; omega)) (EnP.go H fun w5 H => ⟨?_, H.all⟩)⟩
    have := closed_iff (b := b) hS0 (hcl rfl) (by omega)
    rw [Bool.eq_iff_iff, linkS_iff, this]
    exact ⟨fun h => ⟨hga, hgb, h⟩, fun h => h.2.2⟩
  | true =>
    rw [if_pos rfl] at hn
    refine brP_pos rfl ?_
    refine ⟨fun n1 s w' => ∃ (m : Nat) (bs : List Bool), s.2.1 = (m : Int) + 1 ∧ n1 + m = 16 ∧ Sound room ps a bs ∧ (s.1 = true → fal bs < fal bs0) ∧ (s.1 = false → bs = bs0 ∧ ∀ g i, inR room g i = true → g ≤ m → EqAt ps bs g i) ∧ At [] w w' [(bb, bcs bs)],
      ⟨16, fun w5 h5 => ⟨0, bs0, rfl, rfl, hS0, (fun h => by cases h), fun _ => ⟨rfl, fun g i hi h0 => by have := inR_iff.1 hi; omega⟩, H.ext h5⟩⟩, ?_⟩
    clear H
    rintro n1 ⟨more, m', u⟩ w5 ⟨m, bs, hm, hn1, hS, hmt, hmf, H⟩
    simp only at hm hmt hmf
    subst hm
    dsimp only
    refine brP_intro (fun c1 => ?_) (fun c1 => ?_)
    · have hm16 : m < 16 := by simp at c1; omega
      refine ⟨rfl, rfl, LdP.oldA H hb (by simp) (room_at hs) ?_⟩
      refine ⟨fun n2 s w' => ∃ (i : Nat) (bs : List Bool), s.2.1 = i ∧ n2 + i = room.toNat ∧ Sound room ps a bs ∧ (s.1 = true → fal bs < fal bs0) ∧ (s.1 = false → bs = bs0 ∧ (∀ g i, inR room g i = true → g ≤ m → EqAt ps bs g i) ∧ ∀ j : Nat, j < i → EqAt ps bs ((m : Int) + 1) j) ∧ At [] w w' [(bb, bcs bs)],
        ⟨room.toNat, fun w6 h6 => ⟨0, bs, rfl, rfl, hS, hmt, fun h => ⟨(hmf h).1, (hmf h).2, fun j hj => absurd hj (by omega)⟩, H.ext h6⟩⟩, ?_⟩
      clear H hS hmt hmf bs
      rintro n2 ⟨more, i', u⟩ w6 ⟨i, bs, hi, hn2, hS, hmt, hmf, H⟩
      simp only at hi hmt hmf
      subst hi
      dsimp only
      refine brP_intro (fun c2 => ?_) (fun c2 => ?_)
      · have hlt : i < room.toNat := by simp at c2; omega
        have e5 : addI .i64 (i : Int) 1 = ((i + 1 : Nat) : Int) := by rw [addI_i64 (by omega) (by omega)]; rfl
        have hin0 : inR room ((m : Int) + 1) i = true := inR_iff.2 ⟨by omega, by omega, by omega⟩
        refine ⟨_, QCalls.of (s := .el (.one .ptr)) fun w' h' => at_ok ((H.old hb (by simp)).ext h') hs ((m : Int) + 1) i, ?_⟩
        unfold atA
        cases hx : atX room ps ((m : Int) + 1) i with
        | none =>
          have hz : gp ps ((m : Int) + 1) i = zP := by
            rw [atX_eq hin0] at hx
            by_cases e : gp ps ((m : Int) + 1) i = zP
            · exact e
            · rw [if_neg e] at hx; cases hx
          refine ⟨fun h => by simp at h, false, fun h => by simp at h, fun h => by simp at h, fun h => by simp at h, (0 : Int), fun h => by simp at h, fun h => by simp at h, false, fun h => by simp at h, brP_neg rfl fun w7 h7 => ⟨n2 - 1, by omega, i + 1, bs, e5, by omega, hS, hmt, fun h => ⟨(hmf h).1, (hmf h).2.1, fun j hj => ?_⟩, H.ext h7⟩⟩
          rcases Nat.lt_or_ge j i with h1 | h1
          · exact (hmf h).2.2 j h1
          · obtain rfl : j = i := by omega
            exact fun c => absurd hz c
        | some kk =>
          obtain ⟨hin, hkk, hnz⟩ := atX_some hx
          have hk5 : kk < 512 := by rw [hkk]; exact ix_lt hin hhi
          have hxk := hs.get hk5
          have egp : ps.getD kk zP = gp ps ((m : Int) + 1) i := by rw [hkk]; rfl
          have hE : Ed room ps ((m : Int) + 1) (ps.getD kk zP).2.1 := ⟨i, hin, by rw [← egp]; exact hnz, by rw [egp]⟩
          have hr := hE.rng hT
          refine ⟨fun _ => ⟨rfl, by omega, by omega⟩, LdP.atA 0 H rfl (tv_el (by rw [hS.1]; omega)) ⟨fun _ => rfl, fun _ => rfl, LdP.oldA H hb (by simp) (fld hxk (by decide) rfl) ⟨fun _ => ⟨rfl, by omega, by omega⟩, LdP.atA 0 H rfl (tv_el (by rw [hS.1]; omega)) (brP_intro (fun c3 => ?_) (fun c3 => ?_))⟩⟩⟩
          · have hne : tv bs ((m : Int) + 1) ≠ tv bs (ps.getD kk zP).2.1 := by simpa using c3
            have hl1 : ((m : Int) + 1).toNat < bs.length := by rw [hS.1]; omega
            have hl2 : (ps.getD kk zP).2.1.toNat < (bs.set ((m : Int) + 1).toNat true).length := by rw [List.length_set, hS.1]; omega
            have hlk : Lk room ps a ((m : Int) + 1) ∧ Lk room ps a (ps.getD kk zP).2.1 := by
              cases ht : tv bs ((m : Int) + 1) with
              | true =>
                have h1 := hS.2.2 _ (by omega) ht
                exact ⟨h1, .fwd h1 hE⟩
              | false =>
                rw [ht] at hne
                have h1 := hS.2.2 (ps.getD kk zP).2.1 (by omega) (by cases hh : tv bs (ps.getD kk zP).2.1 with | true => rfl | false => rw [hh] at hne; exact absurd rfl hne)
                exact ⟨.bwd h1 hE, h1⟩
            refine ⟨rfl, rfl, LdP.oldA H hb (by simp) (fld hxk (by decide) rfl) ⟨⟨rfl, by omega, by omega⟩, tv_st 0 H rfl hl1 fun w7 H => ⟨?_, trivial, trivial, ⟨rfl, by omega, by omega⟩, tv_st 0 H rfl hl2 fun w8 H w9 h9 => ⟨n2 - 1, by omega, i + 1, _, e5, by omega, (hS.set (by omega) (u := (m : Int) + 1) (by omega) hlk.1).set (by omega) (u := (ps.getD kk zP).2.1) (by omega) hlk.2, fun _ => ?_, (fun h => by cases h), H.ext h9⟩⟩⟩⟩
            · show rdAt w7 (addP (some ⟨bp, kk * 5, none⟩) 1) _ _
              rw [addP_B]; exact elAt_rd (H.old hb (by simp)) (fld hxk (by decide) rfl)
            · have f1 := fal_set hl1
              have f2 := fal_set hl2
              have hle : fal bs ≤ fal bs0 := by
                cases more with
                | true => exact Nat.le_of_lt (hmt rfl)
                | false => rw [(hmf rfl).1]; exact Nat.le_refl _
              have e7 : (bs.set ((m : Int) + 1).toNat true).getD (ps.getD kk zP).2.1.toNat false = tv bs (ps.getD kk zP).2.1 := by
                have := tv_set (bs := bs) (u := (m : Int) + 1) (v := (ps.getD kk zP).2.1) (by omega) hl1 (by omega)
                rw [if_neg (by omega)] at this
                exact this
              have e8 : bs.getD ((m : Int) + 1).toNat false = tv bs ((m : Int) + 1) := rfl
              rw [e7] at f2
              rw [e8] at f1
              generalize tv bs (ps.getD kk zP).2.1 = t1 at f2 hne
              generalize tv bs ((m : Int) + 1) = t2 at f1 hne
              have h12 : (t1 = false ∧ t2 = true) ∨ (t1 = true ∧ t2 = false) := by
                cases t1 <;> cases t2 <;> first | exact absurd rfl hne | exact .inl ⟨rfl, rfl⟩ | exact .inr ⟨rfl, rfl⟩
              rcases h12 with ⟨rfl, rfl⟩ | ⟨rfl, rfl⟩
              · rw [if_pos rfl] at f2
                rw [if_neg (by decide)] at f1
                omega
              · rw [if_neg (by decide)] at f2
                rw [if_pos rfl] at f1
                omega
          · have heq : tv bs ((m : Int) + 1) = tv bs (ps.getD kk zP).2.1 := by simpa using c3
            refine fun w7 h7 => ⟨n2 - 1, by omega, i + 1, bs, e5, by omega, hS, hmt, fun h => ⟨(hmf h).1, (hmf h).2.1, fun j hj => ?_⟩, H.ext h7⟩
            rcases Nat.lt_or_ge j i with h1 | h1
            · exact (hmf h).2.2 j h1
            · obtain rfl : j = i := by omega
              intro _
              rw [← egp]; exact heq
      · have hi : i = room.toNat := by simp at c2; omega
        refine fun w7 h7 => ⟨n1 - 1, by omega, m + 1, bs, by rw [addI_i64 (by omega) (by omega)]; omega, by omega, hS, hmt, fun h => ⟨(hmf h).1, fun g j hj hg => ?_⟩, H.ext h7⟩
        by_cases e : g ≤ m
        · exact (hmf h).2.1 g j hj e
        · have e2 : g = (m : Int) + 1 := by omega
          subst e2
          have hj' := inR_iff.1 hj
          have := (hmf h).2.2 j.toNat (by omega)
          rwa [show ((j.toNat : Nat) : Int) = j by omega] at this
    · have hm16 : m = 16 := by simp at c1; omega
      refine fun w6 h6 => ⟨fal bs + (if more = true then 1 else 0), ?_, bs, hS, rfl, fun h g i hi => (hmf h).2 g i hi (by have := inR_iff.1 hi; omega), H.ext h6⟩
      cases more with
      | true => have := hmt rfl; simp; omega
      | false => rw [(hmf rfl).1]; simp; omega
end
end Go.Proofs.Ytcnaaobeooiojaa
