import Derived.Test.YtcnaaobeooiojaaTD
namespace Go.Proofs.Ytcnaaobeooiojaa
set_option linter.unusedSimpArgs false
set_option linter.unusedVariables false
open Go.RX
section
variable {room : Int} {ps : List PT}
/-- Nothing of g, or none that has to do with g. -/
def Cln (ps : List PT) (g k i : Int) : Prop := gp ps k i = zP ∨ (gp ps k i).2.1 ≠ g
/-- What is there was there, and has to do with the same guest. -/
def Sub (room : Int) (ps q : List PT) : Prop := ∀ k i, inR room k i = true → gp q k i = zP ∨ (gp ps k i ≠ zP ∧ (gp q k i).2.1 = (gp ps k i).2.1)
theorem Sub.refl : Sub room ps ps := fun k i _ => by
  by_cases e : gp ps k i = zP
  · exact .inl e
  · exact .inr ⟨e, rfl⟩
theorem Sub.trans {q r : List PT} (h : Sub room ps q) (h' : Sub room q r) : Sub room ps r := fun k i hi => by
  rcases h' k i hi with z | ⟨z1, z2⟩
  · exact .inl z
  · rcases h k i hi with y | ⟨y1, y2⟩
    · exact absurd y z1
    · exact .inr ⟨y1, z2.trans y2⟩
theorem Sub.ed {q : List PT} (h : Sub room ps q) {u v : Int} (e : Ed room q u v) : Ed room ps u v := by
  obtain ⟨i, hi, hz, he⟩ := e
  rcases h u i hi with z | ⟨z1, z2⟩
  · exact absurd z hz
  · exact ⟨i, hi, z1, by rw [← z2]; exact he⟩
theorem Sub.cln {q : List PT} (h : Sub room ps q) {g k i : Int} (hi : inR room k i = true) (c : Cln ps g k i) : Cln q g k i := by
  rcases h k i hi with z | ⟨z1, z2⟩
  · exact .inl z
  · rcases c with c | c
    · exact absurd c z1
    · exact .inr (by rw [z2]; exact c)
theorem sub_set (hs : okS room ps) {g i : Int} (h : inR room g i = true) {y : PT} (hy : y = zP ∨ (gp ps g i ≠ zP ∧ y.2.1 = (gp ps g i).2.1)) : Sub room ps (ps.set (ix g i) y) := fun a b hab => by
  rw [gp_set hs h hab]
  by_cases e : a = g ∧ b = i
  · rw [if_pos e, e.1, e.2]; exact hy
  · rw [if_neg e]; exact Sub.refl a b hab
theorem close_sub (hT : okT room ps) (g i : Int) : Sub room ps (closeS room ps g i).2 := by
  cases hx : atX room ps g i with
  | none => rw [closeS_none hx]; exact Sub.refl
  | some k =>
    rw [closeS_some hx]
    obtain ⟨p1, p2, p3⟩ := atX_some hx
    have hs := hT.tookS
    split
    · rename_i h2
      obtain ⟨r1, r2, r3⟩ := hT.nz hx h2
      have hz := (atX_some r3).2.2
      subst p2
      exact (sub_set hs r2 (y := (1, _, 0, _)) (.inr ⟨hz, rfl⟩)).trans (sub_set (hs.set _ _) p1 (.inl rfl))
    · subst p2
      exact sub_set hs p1 (.inl rfl)
theorem drop1_sub (hT : okT room ps) (g : Int) : ∀ i, Sub room ps (drop1 room ps g i).2
  | 0 => Sub.refl
  | i + 1 => (drop1_sub hT g i).trans (close_sub (drop1_ok hT g i) g i)
theorem dropT_sub {g : Int} {s : Int × List PT} (hs : okS room s.2) (k i : Int) : Sub room s.2 (dropT room g s k i).2 := by
  unfold dropT
  split
  · exact Sub.refl
  · rename_i x hx
    split
    · obtain ⟨p1, p2, p3⟩ := atX_some hx
      subst p2
      exact sub_set hs p1 (.inl rfl)
    · exact Sub.refl
theorem dropT_cln {g : Int} {s : Int × List PT} (hs : okS room s.2) {k i : Int} (hi : inR room k i = true) : Cln (dropT room g s k i).2 g k i := by
  unfold dropT
  rw [atX_eq hi]
  by_cases e : gp s.2 k i = zP
  · rw [if_pos e]; exact .inl e
  · rw [if_neg e]
    dsimp only
    split
    · exact .inl (by show gp (s.2.set (ix k i) zP) k i = zP; rw [gp_set hs hi hi, if_pos ⟨rfl, rfl⟩])
    · rename_i hg; exact .inr hg
theorem dropR_all {g : Int} {s : Int × List PT} (h : goneP room s.2 g) (k : Int) : ∀ i : Nat, Sub room s.2 (dropR room g s k i).2 ∧ ∀ j : Nat, j < i → inR room k j = true → Cln (dropR room g s k i).2 g k j
  | 0 => ⟨Sub.refl, fun j hj => absurd hj (by omega)⟩
  | i + 1 => by
    obtain ⟨h1, h2⟩ := dropR_all h k i
    have hs := (dropR_gone h k i).1.tookS
    have st := dropT_sub (g := g) hs k i
    refine ⟨h1.trans st, fun j hj hin => ?_⟩
    rcases Nat.lt_or_ge j i with h3 | h3
    · exact st.cln hin (h2 j h3 hin)
    · obtain rfl : j = i := by omega
      exact dropT_cln hs hin
theorem dropA_all {g : Int} {s : Int × List PT} (h : goneP room s.2 g) : ∀ m : Nat, Sub room s.2 (dropA room g s m).2 ∧ ∀ k i : Int, k ≤ m → inR room k i = true → Cln (dropA room g s m).2 g k i
  | 0 => ⟨Sub.refl, fun k i hk hi => by have := inR_iff.1 hi; omega⟩
  | m + 1 => by
    obtain ⟨h1, h2⟩ := dropA_all h m
    obtain ⟨h3, h4⟩ := dropR_all (dropA_gone h m) ((m : Int) + 1) room.toNat
    refine ⟨h1.trans h3, fun k i hk hi => ?_⟩
    by_cases e : k ≤ m
    · exact h3.cln hi (h2 k i e hi)
    · have e2 : k = (m : Int) + 1 := by omega
      subst e2
      have hi' := inR_iff.1 hi
      have := h4 i.toNat (by omega) (by rw [show ((i.toNat : Nat) : Int) = i by omega]; exact hi)
      rwa [show ((i.toNat : Nat) : Int) = i by omega] at this
theorem dropS_sub (hT : okT room ps) (g : Int) : Sub room ps (dropS room ps g).2 := by
  unfold dropS
  split
  · rename_i hg
    exact (drop1_sub hT g _).trans (dropA_all (drop1_gone hT hg) 16).1
  · exact Sub.refl
theorem dropS_cln (hT : okT room ps) {g : Int} (hg : gI g = true) {k i : Int} (hi : inR room k i = true) : Cln (dropS room ps g).2 g k i := by
  unfold dropS
  rw [if_pos hg]
  exact (dropA_all (drop1_gone hT hg) 16).2 k i (inR_iff.1 hi).1.2 hi
theorem dropS_lk (hT : okT room ps) (a : Int) {b c : Int} (h : linkS room (dropS room ps a).2 b c = true) : linkS room ps b c = true := by
  rw [linkS_iff] at h ⊢
  exact ⟨h.1, h.2.1, h.2.2.sub fun u v e => (dropS_sub hT a).ed e⟩
theorem dropS_iso (hT : okT room ps) {a g : Int} (ha : gI a = true) (hne : g ≠ a) : linkS room (dropS room ps a).2 g a = false := by
  rw [Bool.eq_false_iff]
  intro h
  refine ((linkS_iff.1 h).2.2.inv (fun v => v ≠ a) hne ?_) rfl
  rintro u v ⟨i, hi, hz, rfl⟩
  have h1 : (gp (dropS room ps a).2 u i).2.1 ≠ a := (dropS_cln hT ha hi).resolve_left hz
  have h2 : u ≠ a := fun e => by
    subst e
    exact hz ((dropS_gone hT ha).2 i hi)
  exact ⟨fun _ => h1, fun _ => h2⟩
/-- Once more: there is nothing left. -/
theorem dropT_id {g : Int} {s : Int × List PT} (hc : ∀ k i, inR room k i = true → Cln s.2 g k i) (k i : Int) : dropT room g s k i = s := by
  unfold dropT
  split
  · rfl
  · rename_i x hx
    obtain ⟨p1, p2, p3⟩ := atX_some hx
    subst p2
    rw [if_neg]
    rcases hc k i p1 with z | z
    · exact absurd z p3
    · exact z
theorem dropR_id {g : Int} {s : Int × List PT} (hc : ∀ k i, inR room k i = true → Cln s.2 g k i) (k : Int) : ∀ i, dropR room g s k i = s
  | 0 => rfl
  | i + 1 => by simp only [dropR, dropR_id hc k i]; exact dropT_id hc k i
theorem dropA_id {g : Int} {s : Int × List PT} (hc : ∀ k i, inR room k i = true → Cln s.2 g k i) : ∀ m, dropA room g s m = s
  | 0 => rfl
  | m + 1 => by simp only [dropA, dropA_id hc m]; exact dropR_id hc _ _
theorem drop1_id {g : Int} (hg : ∀ i, inR room g i = true → gp ps g i = zP) : ∀ i, drop1 room ps g i = (0, ps)
  | 0 => rfl
  | i + 1 => by
    have e : atX room ps g (i : Nat) = none := by
      by_cases h : inR room g (i : Nat) = true
      · rw [atX_eq h, hg _ h, if_pos rfl]
      · exact atX_out h
    simp only [drop1, drop1_id hg i, closeS_none e]
    rfl
theorem dropS_again (hT : okT room ps) {a : Int} (ha : gI a = true) : (dropS room (dropS room ps a).2 a).1 = 0 := by
  have h1 := (dropS_gone hT ha).2
  have h2 : ∀ k i, inR room k i = true → Cln (dropS room ps a).2 a k i := fun k i hi => dropS_cln hT ha hi
  generalize (dropS room ps a).2 = q at h1 h2
  unfold dropS
  rw [if_pos ha, drop1_id h1, dropA_id (s := (0, q)) h2]
end
abbrev opT : List Sc := [.int .i64, .int .i64, .int .i64, .int .i64, .bool]
theorem tdrop_row (p : Option Addr) (m c : Nat) (xs : List (ScsT opT)) (hm : m = xs.length) (hmx : m ≤ maxLen) {w : World} (hx : Sl w (.agg opT) p xs) (_ : ∀ x ∈ xs, okScs opT x) (xx : ScsT [.int .u8, .int .u8, .int .u8]) (hxx : okScs [.int .u8, .int .u8, .int .u8] xx) :
    CallsR Try.prog 6 (.el (.one .bool)) [.slice p m c, .agg ⟨scsEmb _ xx⟩] w (fun b w' => b = true ∧ Ext w w') := by
  obtain ⟨x, y, z, u⟩ := xx
  have hx1 := u8_rng hxx.1
  have hy1 := u8_rng hxx.2.1
  have hz1 := u8_rng hxx.2.2.1
  refine rxFn_ok (C := R2) (ann := tdrop_vc_ann) (Eq.mpr (tdrop_vc p m c x y z w _) ?_)
  have cv : ∀ z : Int, 0 ≤ z ∧ z < 256 → addI .i64 1 (remI (convI .i64 z) 16) = 1 + z % 16 := fun z hz => by
    have e1 : convI .i64 z = z := wrap_i64_id (by omega) (by omega)
    have e2 : remI z 16 = z % 16 := by unfold remI; exact Int.tmod_eq_emod_of_nonneg hz.1
    rw [e1, e2, addI_i64 (by omega) (by omega)]
  have H := At.start [] w
  refine AlP.go H fun bx w1 H => pnewp_at H 4 (fun h => absurd h (by decide)) fun _ _ bp w2 H => brP_neg rfl ?_
  refine ⟨fun q s w' => ∃ (i : Nat) (ps : List PT), s.1 = i ∧ q + i = 60 ∧ okT 4 ps ∧ At [] w w' [(bp, pcs 4 ps), (bx, [.int .u8 x, .int .u8 y, .int .u8 z])], ⟨60, fun w3 h3 => ⟨0, k0, rfl, rfl, okT_zero (by decide) (by decide), H.ext h3⟩⟩, ?_⟩
  clear H
  rintro q ⟨i', u⟩ w3 ⟨i, ps, hi, hq, hT, H⟩
  simp only at hi
  subst hi
  dsimp only
  refine brP_intro (fun c2 => ?_) (fun c2 => ?_)
  · have him : i < m ∧ i < 60 := by simp only [Bool.and_eq_true, decide_eq_true_eq] at c2; omega
    have hxi : xs[i]? = some xs[i] := List.getElem?_eq_getElem (by omega)
    generalize xs[i] = o at hxi
    obtain ⟨ok, oa, ob, oc, od, ou⟩ := o
    have hs := hx.ext H.all
    have ixx : p.isSome = true ∧ 0 ≤ (i : Int) ∧ (i : Int) < (m : Int) := ⟨(hs i _ hxi).1, by omega, by omega⟩
    have e5 : addI .i64 (i : Int) 1 = ((i + 1 : Nat) : Int) := by rw [addI_i64 (by omega) (by omega)]; rfl
    have next : ∀ ps', okT 4 ps' → ∀ bb l w9, At [] w w9 [(bb, l), (bp, pcs 4 ps'), (bx, [.int .u8 x, .int .u8 y, .int .u8 z])] → ∀ (w3 : World), Ext w9 w3 → ∃ (n' : Nat), n' < q ∧ ∃ (i_1 : Nat) (ps : List PT), addI .i64 (i : Int) 1 = i_1 ∧ n' + i_1 = 60 ∧ okT 4 ps ∧ At [] w w3 [(bp, pcs 4 ps), (bx, [.int .u8 x, .int .u8 y, .int .u8 z])] := fun ps' hT' bb l w9 H w10 h10 =>
      ⟨q - 1, by omega, i + 1, ps', e5, by omega, hT', (H.sub (List.sublist_cons_self _ _)).ext h10⟩
    refine ⟨ixx, LdP.of (ok, oa, ob, oc, od, ()) (hs i _ hxi).2 (AlP.go H fun bb w4 H => StP.all 0 H rfl rfl rfl fun w5 H => ⟨rfl, LdP.atA 0 H rfl rfl (brP_intro (fun c3 => ?_) (fun c3 => ?_))⟩)⟩
    · refine ⟨rfl, LdP.atA 0 H rfl rfl ⟨rfl, LdP.atA 0 H rfl rfl (popen_at H 1 rfl hT.tookS _ _ fun w6 H => ⟨rfl, LdP.atA 0 H rfl rfl (brP_intro (fun c4 => ?_) (fun c4 => ?_))⟩)⟩⟩
      · have a1 : ok = 0 := by simpa using c3
        have a2 : ok = 1 := by simpa using c4
        exact absurd (a1.symm.trans a2) (show ¬ (0 : Int) = 1 by decide)
      · exact next _ (hT.openS _ _) _ _ w6 H
    · refine ⟨rfl, LdP.atA 0 H rfl rfl (brP_intro (fun c4 => ?_) (fun c4 => ?_))⟩
      · refine ⟨rfl, LdP.atA 0 H rfl rfl ⟨rfl, LdP.atA 0 H rfl rfl ⟨rfl, LdP.atA 0 H rfl rfl (pbind_at H 1 rfl hT.tookS _ _ _ fun w6 H => ?_)⟩⟩⟩
        exact next _ (hT.bindS _ _ _) _ _ w6 H
      · exact next _ hT _ _ w5 H
  refine ⟨⟨rfl, by decide, by decide⟩, LdP.atA 1 H rfl rfl ⟨⟨rfl, by decide, by decide⟩, LdP.atA 1 H rfl rfl ⟨⟨rfl, by decide, by decide⟩, LdP.atA 1 H rfl rfl ?_⟩⟩⟩
  rw [cv x hx1, cv y hy1, cv z hz1]
  obtain ⟨a, ha⟩ : ∃ a : Int, a = 1 + (x : Int) % 16 := ⟨_, rfl⟩
  obtain ⟨b, hb⟩ : ∃ b : Int, b = 1 + (y : Int) % 16 := ⟨_, rfl⟩
  obtain ⟨d, hd⟩ : ∃ d : Int, d = 1 + (z : Int) % 16 := ⟨_, rfl⟩
  rw [← ha, ← hb, ← hd]
  have hga : gI a = true := gI_iff.2 (by omega)
  refine ⟨_, plinked_q H 0 rfl hT b d rfl, pdrop_at H 0 rfl hT a fun w4 H => ?_⟩
  have hTq := dropS_ok hT a
  obtain ⟨qs, hqs⟩ : ∃ qs, qs = (dropS 4 ps a).2 := ⟨_, rfl⟩
  have H : At [] w w4 [(bp, pcs 4 (dropS 4 ps a).2), (bx, [.int .u8 x, .int .u8 y, .int .u8 z])] := H
  have hgone := (dropS_gone hT hga).2
  have hcln : ∀ {k i}, inR 4 k i = true → Cln (dropS 4 ps a).2 a k i := fun hi => dropS_cln hT hga hi
  have hiso : ∀ {g}, g ≠ a → linkS 4 (dropS 4 ps a).2 g a = false := fun hg => dropS_iso hT hga hg
  have hlk := fun h => dropS_lk hT a (b := b) (c := d) h
  have hag := dropS_again hT hga
  rw [← hqs] at H hTq hgone hcln hiso hlk hag
  refine ⟨fun n s w' => 1 ≤ s.1 ∧ s.1 ≤ 17 ∧ (n : Int) + s.1 = 17 ∧ At [] w w' [(bp, pcs 4 qs), (bx, [.int .u8 x, .int .u8 y, .int .u8 z])], ⟨16, fun w5 h5 => ⟨by decide, by decide, by decide, H.ext h5⟩⟩, ?_⟩
  clear H
  rintro n ⟨g, u⟩ w5 ⟨hg1, hg2, hn, H⟩
  simp only at hg1 hg2 hn
  dsimp only
  refine brP_intro (fun c5 => ?_) (fun c5 => ?_)
  · have hg17 : g < 17 := by simpa using c5
    refine ⟨fun n1 s w' => ∃ k : Nat, s.1 = k ∧ n1 + k = 4 ∧ At [] w w' [(bp, pcs 4 qs), (bx, [.int .u8 x, .int .u8 y, .int .u8 z])], ⟨4, fun w6 h6 => ⟨0, rfl, rfl, H.ext h6⟩⟩, ?_⟩
    clear H
    rintro n1 ⟨k', u⟩ w6 ⟨k, hk, hn1, H⟩
    simp only at hk
    subst hk
    dsimp only
    refine brP_intro (fun c6 => ?_) (fun c6 => ?_)
    · have hk4 : k < 4 := by simp at c6; omega
      have hin : inR 4 g k = true := inR_iff.2 ⟨by omega, by omega, by omega⟩
      refine ⟨_, pof_q H 0 rfl hTq.tookS g k, AlP.go H fun bb w7 H => StP.all 0 H rfl rfl rfl fun w8 H => ⟨fun _ => rfl, LdP.atA 0 H rfl rfl ?_⟩⟩
      have e9 : ((ofS 4 qs g k).2 && (g == a || (ofS 4 qs g k).1.2.1 == a)) = false := by
        unfold ofS
        rw [atX_eq hin]
        by_cases e : gp qs g k = zP
        · rw [if_pos e]; rfl
        · rw [if_neg e]
          have h1 : (gp qs g k).2.1 ≠ a := (hcln hin).resolve_left e
          have h2 : g ≠ a := fun e2 => by rw [e2] at e hin; exact e (hgone _ hin)
          show (true && (g == a || (gp qs g k).2.1 == a)) = false
          simp [h1, h2]
      refine brP_neg e9 fun w9 h9 => ⟨n1 - 1, by omega, k + 1, by rw [addI_i64 (by omega) (by omega)]; rfl, by omega, (H.sub (List.sublist_cons_self _ _)).ext h9⟩
    · refine ⟨linkS 4 qs g a, fun _ => plinked_q H 0 rfl hTq g a rfl, brP_neg ?_ fun w7 h7 => ⟨n - 1, by omega, by rw [addI_i64 (by omega) (by omega)]; omega, by rw [addI_i64 (by omega) (by omega)]; omega, by rw [addI_i64 (by omega) (by omega)]; omega, H.ext h7⟩⟩
      by_cases e : g = a
      · rw [e]; simp
      · rw [hiso e, Bool.and_false]
  · refine ⟨_, plinked_q H 0 rfl hTq b d rfl, true, fun _ => plinked_q H 0 rfl hTq a a (linkS_iff.2 ⟨hga, hga, .refl⟩), brP_pos ?_ ?_⟩
    · cases h1 : linkS 4 qs b d with
      | false => rfl
      | true => rw [hlk h1]; rfl
    · refine pdrop_at H 0 rfl hTq a fun w6 H => brP_pos (by rw [hag]; rfl) (CaP.val H (s := .el (.one .bool)) true (fun w3 H => tknown_ok w3) fun w4 H => EnP.go H fun w5 H => ⟨rfl, H.all⟩)
end Go.Proofs.Ytcnaaobeooiojaa
