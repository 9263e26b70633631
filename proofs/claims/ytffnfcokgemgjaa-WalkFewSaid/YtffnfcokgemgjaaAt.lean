import Derived.Test.YtffnfcokgemgjaaRx
/-! What is known of the world while a function goes on: blocks and what lies in them; what has been left alone. -/
namespace Go.RX
open Go.RowKit

/-- 'w'' is 'w' with more, but for the blocks G. -/
structure Fr (G : List Nat) (w w' : World) : Prop where
  os : w'.os = w.os
  tape : w'.tape = w.tape
  output : w'.output = w.output
  size : w.heap.size ≤ w'.heap.size
  block : ∀ k, k < w.heap.size → k ∉ G → w'.heap[k]? = w.heap[k]?
theorem Fr.refl (G : List Nat) (w : World) : Fr G w w := ⟨rfl, rfl, rfl, Nat.le_refl _, fun _ _ _ => rfl⟩
theorem Fr.trans {G : List Nat} {a b c : World} (h : Fr G a b) (k : Fr G b c) : Fr G a c :=
  ⟨k.os.trans h.os, k.tape.trans h.tape, k.output.trans h.output, Nat.le_trans h.size k.size, fun j hj hn => (k.block j (Nat.lt_of_lt_of_le hj h.size) hn).trans (h.block j hj hn)⟩
theorem Fr.of_ext {G : List Nat} {w w' : World} (h : Ext w w') : Fr G w w' := ⟨h.os, h.tape, h.output, h.size, fun _ hk _ => h.block hk⟩
theorem Fr.ext {w w' : World} (h : Fr [] w w') : Ext w w' := ⟨h.os, h.tape, h.output, h.size, fun k hk => h.block k hk (by simp)⟩
theorem Fr.mono {G G' : List Nat} {w w' : World} (h : Fr G w w') (hs : ∀ x ∈ G, x ∈ G') : Fr G' w w' := ⟨h.os, h.tape, h.output, h.size, fun k hk hn => h.block k hk fun hm => hn (hs k hm)⟩
theorem Fr.blk {G : List Nat} {w w' : World} (h : Fr G w w') {b : Nat} {l : List Value} (hb : b ∉ G) (k : Blk w b l) : Blk w' b l := k.same (h.block b k.lt hb)
theorem Fr.putP {G : List Nat} {w0 w : World} (h : Fr G w0 w) {a : Addr} (ha : w0.heap.size ≤ a.block ∨ a.block ∈ G) (vs : List Value) : Fr G w0 (putP w (some a) vs) := by
  have env : ∀ (vs : List Value) (w : World) (i : Nat), (putAt w a vs i).os = w.os ∧ (putAt w a vs i).tape = w.tape ∧ (putAt w a vs i).output = w.output := by
    intro vs
    induction vs with
    | nil => intro w i; exact ⟨rfl, rfl, rfl⟩
    | cons v r ih =>
      intro w i
      have := ih (w.setCell (a.add i) v) (i + 1)
      simp only [putAt]
      exact this
  obtain ⟨e1, e2, e3⟩ := env vs w 0
  refine ⟨e1.trans h.os, e2.trans h.tape, e3.trans h.output, ?_, fun k hk hn => ?_⟩
  · show _ ≤ (putAt w a vs 0).heap.size
    rw [putAt_size]; exact h.size
  · have hne : k ≠ a.block := by
      intro e
      rcases ha with ha | ha
      · omega
      · rw [← e] at ha; exact hn ha
    exact (putAt_ne vs w a 0 k hne).trans (h.block k hk hn)

/-- What is known of a world: G may have changed since w0; L's blocks (new ones, or of G) hold what it says; D are marks of ranges over functions. -/
structure AtD (D G : List Nat) (w0 w : World) (L : List (Nat × List Value)) : Prop where
  fr : Fr G w0 w
  blk : ∀ x ∈ L, Blk w x.1 x.2
  own : ∀ x ∈ L, w0.heap.size ≤ x.1 ∨ x.1 ∈ G
  nd : (L.map (·.1)).Nodup
  mks : ∀ r ∈ D, w0.heap.size ≤ r ∧ w.heap[r]? = some (.deferred (some []))
abbrev At := AtD []
theorem At.start (G : List Nat) (w : World) : At G w w [] where
  fr := Fr.refl G w
  blk := fun x hx => by cases hx
  own := fun x hx => by cases hx
  nd := List.nodup_nil
  mks := fun x hx => by cases hx
namespace AtD
variable {D G : List Nat} {w0 w w1 : World} {L : List (Nat × List Value)}
theorem ext (H : AtD D G w0 w L) (h : Ext w w1) : AtD D G w0 w1 L :=
  ⟨H.fr.trans (.of_ext h), fun x hx => (H.blk x hx).ext h, H.own, H.nd, fun r hr => ⟨(H.mks r hr).1, h.obj (H.mks r hr).2⟩⟩
theorem all (H : AtD D [] w0 w L) : Ext w0 w := H.fr.ext
theorem get (H : AtD D G w0 w L) {i b : Nat} {l : List Value} (h : L[i]? = some (b, l)) : Blk w b l := H.blk _ (List.mem_of_getElem? h)
theorem ne (H : AtD D G w0 w L) {i j b c : Nat} {l m : List Value} (h : L[i]? = some (b, l)) (k : L[j]? = some (c, m)) (hij : i ≠ j) : b ≠ c := by
  intro e
  subst e
  have hi : i < L.length := (List.getElem?_eq_some_iff.1 h).1
  have h1 : (L.map (·.1))[i]? = some b := by rw [List.getElem?_map, h]; rfl
  have h2 : (L.map (·.1))[j]? = some b := by rw [List.getElem?_map, k]; rfl
  exact hij ((List.getElem?_inj (by simpa using hi) H.nd).1 (h1.trans h2.symm))
theorem alloc (H : AtD D G w0 w L) (cs : List Value) (t : TypeId) : AtD D G w0 (w.alloc (.cells ⟨cs⟩ t)) ((w.heap.size, cs) :: L) := by
  have H1 := H.ext (Ext.alloc w (.cells ⟨cs⟩ t))
  refine ⟨H1.fr, fun x hx => ?_, fun x hx => ?_, ?_, H1.mks⟩
  · rcases List.mem_cons.1 hx with rfl | hx
    · exact Blk.new w cs t
    · exact H1.blk x hx
  · rcases List.mem_cons.1 hx with rfl | hx
    · exact .inl H.fr.size
    · exact H1.own x hx
  · refine List.nodup_cons.2 ⟨fun hm => ?_, H.nd⟩
    obtain ⟨x, hx, e⟩ := List.mem_map.1 hm
    have := (H.blk x hx).lt
    rw [e] at this
    exact Nat.lt_irrefl _ this
/-- A new block of any kind, that is not kept in the list. -/
theorem allocO (H : AtD D G w0 w L) (o : Obj) : AtD D G w0 (w.alloc o) L := H.ext (Ext.alloc w o)
theorem blk_ne_obj {b r : Nat} {l : List Value} {o : Obj} (h : Blk w b l) (k : w.heap[r]? = some o) (ho : ∀ a t f, o ≠ .cells a t f) : b ≠ r := by
  intro e
  subst e
  obtain ⟨t, h⟩ := h
  rw [h] at k
  cases k
  exact ho _ _ _ rfl
theorem put (H : AtD D G w0 w L) (i : Nat) {b o : Nat} {l : List Value} (h : L[i]? = some (b, l)) (vs : List Value) (hn : o + vs.length ≤ l.length) :
    AtD D G w0 (putP w (some ⟨b, o, none⟩) vs) (L.set i (b, l.take o ++ (vs ++ l.drop (o + vs.length)))) := by
  have hi : i < L.length := (List.getElem?_eq_some_iff.1 h).1
  have hm : (b, l) ∈ L := List.mem_of_getElem? h
  refine ⟨H.fr.putP (a := ⟨b, o, none⟩) (H.own _ hm) vs, fun x hx => ?_, fun x hx => ?_, ?_, fun r hr => ⟨(H.mks r hr).1, ?_⟩⟩
  · obtain ⟨j, hj⟩ := List.getElem?_of_mem hx
    by_cases e : i = j
    · subst e
      rw [List.getElem?_set_self hi] at hj
      cases hj
      exact (H.get h).put vs hn
    · rw [List.getElem?_set_ne e] at hj
      have hne : x.1 ≠ b := fun e' => by
        obtain ⟨x1, x2⟩ := x
        exact H.ne hj h (fun e2 => e e2.symm) e'
      exact (H.blk x (List.mem_of_getElem? hj)).putNe (a := ⟨b, o, none⟩) hne vs
  · rcases List.mem_or_eq_of_mem_set hx with hx | rfl
    · exact H.own x hx
    · exact H.own (b, l) hm
  · have : (L.set i (b, l.take o ++ (vs ++ l.drop (o + vs.length)))).map (·.1) = L.map (·.1) := by
      apply List.ext_getElem?
      intro j
      rw [List.getElem?_map, List.getElem?_map]
      by_cases e : i = j
      · subst e; rw [List.getElem?_set_self hi, h]; rfl
      · rw [List.getElem?_set_ne e]
    rw [this]; exact H.nd
  · have hk := (H.mks r hr).2
    have hne : r ≠ b := fun e => blk_ne_obj (H.get h) hk (fun _ _ _ hc => by cases hc) e.symm
    rw [← hk]
    exact putAt_ne vs w ⟨b, o, none⟩ 0 r hne
theorem old (H : AtD D G w0 w L) {b : Nat} {l : List Value} (h : Blk w0 b l) (hb : b ∉ G) : Blk w b l := H.fr.blk hb h
/-- What is known is forgotten, or put in another order. -/
theorem sub (H : AtD D G w0 w L) {L' : List (Nat × List Value)} (h : L'.Sublist L) : AtD D G w0 w L' :=
  ⟨H.fr, fun x hx => H.blk x (h.subset hx), fun x hx => H.own x (h.subset hx), (h.map _).nodup H.nd, H.mks⟩
theorem nil (H : AtD D G w0 w L) : AtD D G w0 w [] := H.sub (List.nil_sublist _)
theorem perm (H : AtD D G w0 w L) {L' : List (Nat × List Value)} (h : L'.Perm L) : AtD D G w0 w L' :=
  ⟨H.fr, fun x hx => H.blk x (h.subset hx), fun x hx => H.own x (h.subset hx), (h.map _).nodup_iff.2 H.nd, H.mks⟩
/-- A call changed blocks G' of what is known, and nothing else. -/
theorem frame (H : AtD D G w0 w L) {G' : List Nat} {L' : List (Nat × List Value)} (h : Fr G' w w1) (hG : ∀ x ∈ G', w0.heap.size ≤ x ∨ x ∈ G) (hD : ∀ r ∈ D, r ∉ G') (hb : ∀ x ∈ L', Blk w1 x.1 x.2) (ho : ∀ x ∈ L', w0.heap.size ≤ x.1 ∨ x.1 ∈ G) (hn : (L'.map (·.1)).Nodup) : AtD D G w0 w1 L' :=
  ⟨⟨h.os.trans H.fr.os, h.tape.trans H.fr.tape, h.output.trans H.fr.output, Nat.le_trans H.fr.size h.size, fun k hk hkn => (h.block k (Nat.lt_of_lt_of_le hk H.fr.size) (fun hm => by
    rcases hG k hm with h1 | h1
    · omega
    · exact hkn h1)).trans (H.fr.block k hk hkn)⟩, hb, ho, hn, fun r hr => ⟨(H.mks r hr).1, by rw [h.block r (Array.getElem?_eq_some_iff.1 (H.mks r hr).2).1 (hD r hr)]; exact (H.mks r hr).2⟩⟩
/-- A call that changed one known block. -/
theorem mod (H : AtD D G w0 w L) (i : Nat) {b : Nat} {l l' : List Value} (hL : L[i]? = some (b, l)) (h : Fr [b] w w1) (hb : Blk w1 b l') : AtD D G w0 w1 (L.set i (b, l')) := by
  have hi : i < L.length := (List.getElem?_eq_some_iff.1 hL).1
  have hm : (b, l) ∈ L := List.mem_of_getElem? hL
  refine H.frame h (fun x hx => by rw [List.mem_singleton.1 hx]; exact H.own (b, l) hm) (fun r hr hx => ?_) (fun x hx => ?_) (fun x hx => ?_) ?_
  · rw [List.mem_singleton] at hx
    exact blk_ne_obj (H.get hL) (H.mks r hr).2 (fun _ _ _ hc => by cases hc) hx.symm
  · obtain ⟨j, hj⟩ := List.getElem?_of_mem hx
    by_cases e : i = j
    · subst e
      rw [List.getElem?_set_self hi] at hj
      cases hj
      exact hb
    · rw [List.getElem?_set_ne e] at hj
      obtain ⟨x1, x2⟩ := x
      have hne : x1 ≠ b := H.ne hj hL (fun e2 => e e2.symm)
      exact h.blk (by simpa using hne) (H.blk (x1, x2) (List.mem_of_getElem? hj))
  · rcases List.mem_or_eq_of_mem_set hx with hx | rfl
    · exact H.own x hx
    · exact H.own (b, l) hm
  · have : (L.set i (b, l')).map (·.1) = L.map (·.1) := by
      apply List.ext_getElem?
      intro j
      rw [List.getElem?_map, List.getElem?_map]
      by_cases e : i = j
      · subst e; rw [List.getElem?_set_self hi, hL]; rfl
      · rw [List.getElem?_set_ne e]
    rw [this]; exact H.nd
/-- What is known, from here on. -/
theorem again (H : AtD D G w0 w L) : At (L.map (·.1)) w w L where
  fr := Fr.refl _ w
  blk := H.blk
  own := fun x hx => .inr (List.mem_map.2 ⟨x, hx, rfl⟩)
  nd := H.nd
  mks := fun x hx => by cases hx
/-- What came of it, for who began before. -/
theorem join {G' : List Nat} {L' : List (Nat × List Value)} (H : AtD D G w0 w L) (hG : ∀ x ∈ G', x ∈ L.map (·.1)) (K : At G' w w1 L') : AtD D G w0 w1 L' := by
  have hown : ∀ x ∈ G', w0.heap.size ≤ x ∨ x ∈ G := fun x hx => by
    obtain ⟨y, hy, e⟩ := List.mem_map.1 (hG x hx)
    rw [← e]; exact H.own y hy
  refine H.frame K.fr hown (fun r hr hx => ?_) K.blk (fun x hx => ?_) K.nd
  · obtain ⟨y, hy, e⟩ := List.mem_map.1 (hG r hx)
    exact blk_ne_obj (H.blk y hy) (H.mks r hr).2 (fun _ _ _ hc => by cases hc) e
  · rcases K.own x hx with h1 | h1
    · exact .inl (Nat.le_trans H.fr.size h1)
    · exact hown _ h1
/-- A record of a loop is changed. -/
theorem putObj (H : AtD D G w0 w L) {l : Nat} (hl : w0.heap.size ≤ l) {o o' : Obj} (ho : w.heap[l]? = some o) (hc : ∀ a t f, o ≠ .cells a t f) (hd : l ∉ D) : AtD D G w0 (w.putObj l o') L := by
  refine ⟨⟨H.fr.os, H.fr.tape, H.fr.output, by rw [putObj_size]; exact H.fr.size, fun k hk hn => ?_⟩, fun x hx => (H.blk x hx).putObj (blk_ne_obj (H.blk x hx) ho hc) _, H.own, H.nd, fun r hr => ⟨(H.mks r hr).1, ?_⟩⟩
  · rw [putObj_ne (by omega)]; exact H.fr.block k hk hn
  · rw [putObj_ne (fun e => hd (by rw [← e]; exact hr))]; exact (H.mks r hr).2
end AtD

/-- What lies in a row of cells from o on. -/
def elAt (l : List Value) (o : Nat) : (el : El) → Option el.T
  | .one s => match l[o]? with
    | some v => s.proj v
    | none => none
  | .agg ss => scsProj ss ((l.drop o).take ss.length)
theorem elAt_rd {w : World} {b o : Nat} {l : List Value} (h : Blk w b l) {el : El} {x : el.T} (hx : elAt l o el = some x) : rdAt w (some ⟨b, o, none⟩) el x := by
  cases el with
  | one s =>
    simp only [elAt] at hx
    split at hx
    · rename_i v hv
      exact h.rd1 (by rw [hv, Sc.proj_emb hx])
    · cases hx
  | agg ss =>
    simp only [elAt] at hx
    have e := scsProj_emb hx
    refine h.rdA fun i hi => ?_
    rw [e, List.getElem?_take_of_lt hi, List.getElem?_drop]

theorem LdP.of {w : World} {g : Option Bool} {p : Option Addr} {el : El} {K : el.T → Prop} (x : el.T) (h : rdAt w p el x) (k : K x) : LdP w g p el K :=
  ⟨x, by cases g <;> first | exact h | exact fun _ => h, k⟩
theorem brP_pos {b : Bool} {x y : Prop} (e : b = true) (h : x) : brP b x y := brP_intro (fun _ => h) (fun c => by rw [e] at c; cases c)
theorem brP_neg {b : Bool} {x y : Prop} (e : b = false) (h : y) : brP b x y := brP_intro (fun c => by rw [e] at c; cases c) (fun _ => h)
section
variable {D G : List Nat} {w0 w : World} {L : List (Nat × List Value)}
theorem LdP.at (i : Nat) (H : AtD D G w0 w L) {g : Option Bool} {el : El} {K : el.T → Prop} {b o : Nat} {l : List Value} {x : el.T} (hL : L[i]? = some (b, l)) (hv : elAt l o el = some x) (k : K x) : LdP w g (some ⟨b, o, none⟩) el K :=
  .of x (elAt_rd (H.get hL) hv) k
theorem LdP.atA (i : Nat) (H : AtD D G w0 w L) {g : Option Bool} {el : El} {K : el.T → Prop} {b o n : Nat} {l : List Value} {x : el.T} (hL : L[i]? = some (b, l)) (hv : elAt l (o + n) el = some x) (k : K x) : LdP w g (addP (some ⟨b, o, none⟩) n) el K := by
  rw [addP_B]; exact .at i H hL hv k
theorem AlP.go (H : AtD D G w0 w L) {cs : List Value} {e : TypeId} {K : Nat → World → Prop} (k : ∀ b w1, AtD D G w0 w1 ((b, cs) :: L) → K b w1) : AlP w ⟨cs⟩ e K :=
  fun _ h => k _ _ ((H.ext h).alloc cs e)
theorem StP.at (i : Nat) (H : AtD D G w0 w L) {b o : Nat} {l vs : List Value} {K : World → Prop} (hL : L[i]? = some (b, l)) (ho : vs.all (·.oneCell') = true) (hn : o + vs.length ≤ l.length)
    (k : ∀ w1, AtD D G w0 w1 (L.set i (b, l.take o ++ (vs ++ l.drop (o + vs.length)))) → K w1) : StP w (some ⟨b, o, none⟩) vs K :=
  fun _ h => ⟨⟨ho, ((H.ext h).get hL).st hn⟩, k _ ((H.ext h).put i hL vs hn)⟩
theorem StP.all (i : Nat) (H : AtD D G w0 w L) {b : Nat} {l vs : List Value} {K : World → Prop} (hL : L[i]? = some (b, l)) (ho : vs.all (·.oneCell') = true) (hn : vs.length = l.length)
    (k : ∀ w1, AtD D G w0 w1 (L.set i (b, vs)) → K w1) : StP w (some ⟨b, 0, none⟩) vs K := by
  refine StP.at i H hL ho (by omega) fun w1 h1 => k w1 ?_
  rw [Nat.zero_add, hn, List.drop_length, List.append_nil, List.take_zero, List.nil_append] at h1
  exact h1
theorem StP.one (i : Nat) (H : AtD D G w0 w L) {b o : Nat} {l : List Value} {x : Value} {K : World → Prop} (hL : L[i]? = some (b, l)) (ho : x.oneCell' = true) (hn : Nat.blt o l.length = true)
    (k : ∀ w1, AtD D G w0 w1 (L.set i (b, l.set o x)) → K w1) : StP w (some ⟨b, o, none⟩) [x] K := by
  have hn : o < l.length := by simpa [Nat.blt_eq] using hn
  refine StP.at i H hL (by simp [ho]) (by simp only [List.length_singleton]; omega) fun w1 h1 => k w1 ?_
  rw [show l.set o x = l.take o ++ ([x] ++ l.drop (o + [x].length)) from by simp [List.set_eq_take_append_cons_drop, hn]]
  exact h1
theorem StP.oneA (i : Nat) (H : AtD D G w0 w L) {b o n : Nat} {l : List Value} {x : Value} {K : World → Prop} (hL : L[i]? = some (b, l)) (ho : x.oneCell' = true) (hn : Nat.blt (o + n) l.length = true)
    (k : ∀ w1, AtD D G w0 w1 (L.set i (b, l.set (o + n) x)) → K w1) : StP w (addP (some ⟨b, o, none⟩) n) [x] K := by
  rw [addP_B]; exact StP.one i H hL ho hn k
theorem EnP.go (H : AtD D G w0 w L) {K : World → Prop} (k : ∀ w1, AtD D G w0 w1 L → K w1) : EnP w K := fun _ h => k _ (H.ext h)
theorem CaP.go (H : AtD D G w0 w L) {P : Program} {f : FuncId} {s : Sh} {args : List Value} {K : s.T → World → Prop} (k : ∀ w1, AtD D G w0 w1 L → CallsR P f s args w1 K) : CaP P f s args w K := fun _ h => k _ (H.ext h)
/-- A call of what leaves old memory alone. -/
theorem CaP.quiet (H : AtD D G w0 w L) {P : Program} {f : FuncId} {s : Sh} {args : List Value} {R : s.T → Prop} {K : s.T → World → Prop} (hc : ∀ w, CallsR P f s args w (fun x w' => R x ∧ Ext w w')) (k : ∀ x w1, R x → AtD D G w0 w1 L → K x w1) : CaP P f s args w K :=
  fun w1 h => (hc w1).mono fun x w2 ⟨hr, hx⟩ => k x w2 hr ((H.ext h).ext hx)
end
end Go.RX
namespace Go.RX
open Go.RowKit
variable {D G : List Nat} {w0 wb w w' w1 : World} {L Lb : List (Nat × List Value)}
theorem AtD.ownE (_ : AtD D G w0 wb L) (H : At [] wb w Lb) {e : El} {s : Option Addr × Nat × Nat} {xs : List e.T} (ho : Own w0 wb e s xs) : Own w0 w e s xs := ho.ext H.all
theorem AtD.then (Hb : AtD D G w0 wb L) (H : At [] wb w Lb) : AtD D G w0 w L := Hb.ext H.all
theorem AtD.below (H : AtD D G w0 w []) (h : Below w0.heap.size w w') (hs : w.heap.size ≤ w'.heap.size) (hD : D = []) : AtD D G w0 w' [] where
  fr := ⟨h.os.trans H.fr.os, h.tape.trans H.fr.tape, h.output.trans H.fr.output, Nat.le_trans H.fr.size hs, fun k hk hn => (h.block k hk).trans (H.fr.block k hk hn)⟩
  blk := fun x hx => by cases hx
  own := fun x hx => by cases hx
  nd := List.nodup_nil
  mks := fun x hx => by rw [hD] at hx; cases hx
/-- One more element at a row's end; 'wb': the round's start. -/
theorem At.push0 (i : Nat) (Hb : At G w0 wb []) {e : El} {s : Option Addr × Nat × Nat} {xs : List e.T} (ho : Own w0 wb e s xs) (H : At [] wb w Lb)
    {b : Nat} {l : List Value} (x : e.T) (hL : Lb[i]? = some (b, l)) (hl : l = cellsOf e x) (hp : plainE e = true) {t : TypeId} {size bytes : Nat} {z : Array Value} (hsz : size = stride e) (hz : z.size = stride e) (hb : (xs.length + 1) * bytes ≤ 140737488355328)
    {R : Option Addr × Nat × Nat → World → Prop} (k : ∀ s' w', At G w0 w' [] → Own w0 w' e s' (xs ++ [x]) → R s' w') :
    apR w t size bytes z s (some ⟨b, 0, none⟩, 1, 1) R := by
  subst hsz; subst hl
  have hn : w0.heap.size ≤ w.heap.size := Nat.le_trans Hb.fr.size H.fr.size
  have ho1 : Own (trunc w0.heap.size w) w e s xs := ((ho.ext H.all).toN).of (Nat.le_of_eq (trunc_size hn))
  refine own_append (ys := [x]) ho1 (trunc_ext hn) hp rfl ?_ hz hb fun s' w' ho' he' _ hs _ => k s' w' ((Hb.then H).below (below_of_trunc hn he' hs) hs rfl) ?_
  · refine (H.get hL).rdN (flat_length e [x]) fun j hj => ?_
    simp [flat]
  · have := ho'.toN
    rw [trunc_size hn] at this
    exact this
theorem LdP.old (H : AtD D G w0 w L) {b o : Nat} {l : List Value} (h : Blk w0 b l) (hb : b ∉ G) {g : Option Bool} {el : El} {K : el.T → Prop} {x : el.T} (hv : elAt l o el = some x) (k : K x) : LdP w g (some ⟨b, o, none⟩) el K :=
  .of x (elAt_rd (H.old h hb) hv) k
theorem LdP.oldA (H : AtD D G w0 w L) {b o n : Nat} {l : List Value} (h : Blk w0 b l) (hb : b ∉ G) {g : Option Bool} {el : El} {K : el.T → Prop} {x : el.T} (hv : elAt l (o + n) el = some x) (k : K x) : LdP w g (addP (some ⟨b, o, none⟩) n) el K := by
  rw [addP_B]; exact .old H h hb hv k
theorem Own.start (w0 w : World) (e : El) : Own w0 w e (none, 0, 0) [] := Own.nil w0 w e
/-- A new row is one of the known blocks. -/
theorem AtD.more (H : AtD D G w0 w L) (h : Ext w w') {b : Nat} {l : List Value} (hb : w.heap.size ≤ b) (k : Blk w' b l) : AtD D G w0 w' ((b, l) :: L) := by
  have H1 := H.ext h
  refine ⟨H1.fr, fun x hx => ?_, fun x hx => ?_, ?_, H1.mks⟩
  · rcases List.mem_cons.1 hx with rfl | hx
    · exact k
    · exact H1.blk x hx
  · rcases List.mem_cons.1 hx with rfl | hx
    · exact .inl (Nat.le_trans H.fr.size hb)
    · exact H1.own x hx
  · refine List.nodup_cons.2 ⟨fun hm => ?_, H.nd⟩
    obtain ⟨x, hx, e⟩ := List.mem_map.1 hm
    have := (H.blk x hx).lt
    rw [e] at this
    exact absurd this (Nat.not_lt.2 hb)
/-- A row that was handed back is one of the known blocks. -/
theorem AtD.got (H : AtD D G w0 w L) (h : Ext w w') {e : El} {r : Option Addr × Nat × Nat} {xs : List e.T} (ho : Own w w' e r xs) (hx : xs ≠ []) :
    ∃ b c rest, r = (some ⟨b, 0, none⟩, xs.length, c) ∧ AtD D G w0 w' ((b, flat e xs ++ rest) :: L) := by
  obtain ⟨h1, h2, h3⟩ := ho
  obtain ⟨p, n, c⟩ := r
  rcases h3 with ⟨_, h3, _⟩ | ⟨b, l, a1, a2, a3, _, a5⟩
  · exact absurd h3 hx
  · simp only at a1 h1
    subst a1; subst h1
    refine ⟨b, c, l.drop (xs.length * stride e), rfl, H.more h a2 ?_⟩
    have el : l = flat e xs ++ l.drop (xs.length * stride e) := by rw [← a5, List.take_append_drop]
    rw [← el]; exact a3
/-- A call that hands back a new row. -/
theorem CaP.row (H : AtD D G w0 w L) {P : Program} {f : FuncId} {args : List Value} {e : El} {xs : List e.T} {K : (Option Addr × Nat × Nat) → World → Prop} (hx : xs ≠ [])
    (hc : ∀ w', AtD D G w0 w' L → CallsR P f (.el (.one .slice)) args w' (fun r w'' => Own w' w'' e r xs ∧ Ext w' w'')) (k : ∀ b c rest w1, AtD D G w0 w1 ((b, flat e xs ++ rest) :: L) → K (some ⟨b, 0, none⟩, xs.length, c) w1) :
    CaP P f (.el (.one .slice)) args w K := fun w1 h => (hc w1 (H.ext h)).mono fun x w2 ⟨ho, hx2⟩ => by
  obtain ⟨b, c, rest, rfl, H2⟩ := (H.ext h).got hx2 ho hx
  exact k b c rest w2 H2
/-- A name for what is reckoned is let go. -/
theorem shr_go {α : Sort _} {e : α} {K : α → Prop} (k : K e) : ∀ x, x = e → K x := fun x hx => by rw [hx]; exact k
end Go.RX
/-! Ranges over functions: an iterator's contract, and the rule for a range. -/
namespace Go.RX
open Go.RowKit
/-- An iterator: for i from 0 on it hands on 'yv i', if that is something; what it leans on is St. -/
def ItOk (P : Program) (fid : FuncId) (args : Nat → List Value) (n : Nat) (yv : Nat → Option (List Value)) (St : World → Prop) : Prop :=
  ∀ (y : Nat) (w : World) (J : Nat → World → Prop) (Dn : World → Prop),
    (∀ i w w', J i w → Ext w w' → J i w') → (∀ w w', Dn w → Ext w w' → Dn w') → (∀ i w, J i w → St w) →
    (∀ i, i < n → yv i = none → ∀ w, J i w → J (i + 1) w) →
    (∀ i v, i < n → yv i = some v → ∀ w (R : Bool → World → Prop), J i w → (∀ w', J (i + 1) w' → R true w') → (∀ w', Dn w' → R false w') → YieldC P y v w R) →
    J 0 w → Calls P fid ⟨args y⟩ w (fun e w' => ∃ v, e = .returned v ∧ (J n w' ∨ Dn w'))
section
variable {D G : List Nat} {w0 w : World} {L : List (Nat × List Value)}
/-- A round may begin. -/
def Rdy (D G : List Nat) (w0 w : World) (L : List (Nat × List Value)) (l : Nat) (rec : Loop) : Prop := w0.heap.size ≤ l ∧ AtD D G w0 w L ∧ LoopAt w l rec .ready none
def Bsy (D G : List Nat) (w0 w : World) (L : List (Nat × List Value)) (l : Nat) (rec : Loop) : Prop := w0.heap.size ≤ l ∧ AtD D G w0 w L ∧ LoopAt w l rec .busy none
def Lft (D G : List Nat) (w0 w : World) (L : List (Nat × List Value)) (l : Nat) (rec : Loop) (j : Code) : Prop := w0.heap.size ≤ l ∧ AtD D G w0 w L ∧ LoopAt w l rec .done (some j)
theorem loop_notin {l : Nat} {rec : Loop} {st : LoopState} {pd : Option Code} (H : AtD D G w0 w L) (h : LoopAt w l rec st pd) : l ∉ D ∧ l ∉ L.map (·.1) := by
  refine ⟨fun hm => ?_, fun hm => ?_⟩
  · have := (H.mks l hm).2
    unfold LoopAt at h
    rw [h] at this
    cases this
  · obtain ⟨x, hx, e⟩ := List.mem_map.1 hm
    exact AtD.blk_ne_obj (H.blk x hx) h (fun _ _ _ hc => by cases hc) e
theorem AtD.putL {l : Nat} {rec : Loop} {st : LoopState} {pd : Option Code} (H : AtD D G w0 w L) (hl : w0.heap.size ≤ l) (h : LoopAt w l rec st pd) (st' : LoopState) (pd' : Option Code) : AtD D G w0 (RX.putL w l rec st' pd') L :=
  H.putObj hl h (fun _ _ _ hc => by cases hc) (loop_notin H h).1
theorem RoP.go {l n m : Nat} {rec : Loop} {K : Prop} (h : Rdy D G w0 w L l rec) (hn : n = m) (k : K) : RoP l rec n m w K := ⟨⟨none, h.2.2⟩, hn, k⟩
theorem BeP.go {l : Nat} {rec : Loop} {K : World → Prop} (h : Rdy D G w0 w L l rec) (k : ∀ wb, At (L.map (·.1)) wb wb L → Bsy D G w0 wb L l rec → K wb) : BeP l rec w K := fun w5 h5 => by
  obtain ⟨hl, H, hL⟩ := h
  have H5 := H.ext h5
  have hL5 := hL.ext h5
  have Hb := H5.putL hl hL5 .busy none
  exact ⟨none, hL5, k _ Hb.again ⟨hl, Hb, hL5.put .busy none⟩⟩
theorem FiP.go {l : Nat} {rec : Loop} {j : Option Code} {wb w6 : World} {L' : List (Nat × List Value)} {R : Bool → World → Prop} (h : Bsy D G w0 wb L l rec) (H6 : At (L.map (·.1)) wb w6 L')
    (k : ∀ w7, w0.heap.size ≤ l → AtD D G w0 w7 L' → LoopAt w7 l rec (if j.isNone then .ready else .done) j → R j.isNone w7) : FiP l rec j w6 R := fun w7 h7 => by
  obtain ⟨hl, H, hL⟩ := h
  have H7 := (H.join (fun x hx => hx) H6).ext h7
  have hL6 : LoopAt w6 l rec .busy none := hL.same (H6.fr.block l hL.lt (loop_notin H hL).2)
  have hL7 := hL6.ext h7
  exact ⟨.busy, none, hL7, k _ hl (H7.putL hl hL7 _ _) (hL7.put _ _)⟩
/-- One more round. -/
theorem FiP.next {l : Nat} {rec : Loop} {wb w6 : World} {L' : List (Nat × List Value)} {R : Bool → World → Prop} (h : Bsy D G w0 wb L l rec) (H6 : At (L.map (·.1)) wb w6 L') (k : ∀ w7, Rdy D G w0 w7 L' l rec → R true w7) : FiP l rec none w6 R :=
  FiP.go h H6 fun w7 a b c => k w7 ⟨a, b, c⟩
/-- It is left. -/
theorem FiP.left {l : Nat} {rec : Loop} {j : Code} {wb w6 : World} {L' : List (Nat × List Value)} {R : Bool → World → Prop} (h : Bsy D G w0 wb L l rec) (H6 : At (L.map (·.1)) wb w6 L') (k : ∀ w7, Lft D G w0 w7 L' l rec j → R false w7) : FiP l rec (some j) w6 R :=
  FiP.go h H6 fun w7 a b c => k w7 ⟨a, b, c⟩
theorem rxAfter.none {l : Nat} {rec : Loop} {Kn Kr : World → Prop} {Kx : Nat → World → Prop} (h : Rdy D G w0 w L l rec) (k : ∀ w5, AtD D G w0 w5 L → Kn w5) : rxAfter l rec w Kn Kx Kr :=
  ⟨.ready, .none, h.2.2, by simp, k _ (h.2.1.putL h.1 h.2.2 _ _)⟩
theorem rxAfter.ret {l : Nat} {rec : Loop} {Kn Kr : World → Prop} {Kx : Nat → World → Prop} (h : Lft D G w0 w L l rec .ret) (k : ∀ w5, AtD D G w0 w5 L → Kr w5) : rxAfter l rec w Kn Kx Kr :=
  ⟨.done, .some .ret, h.2.2, by simp, k _ (h.2.1.putL h.1 h.2.2 _ _)⟩
theorem rxAfter.exit {l id : Nat} {rec : Loop} {Kn Kr : World → Prop} {Kx : Nat → World → Prop} (h : Lft D G w0 w L l rec (.exit id)) (k : ∀ w5, AtD D G w0 w5 L → Kx id w5) : rxAfter l rec w Kn Kx Kr :=
  ⟨.done, .some (.exit id), h.2.2, by simp, k _ (h.2.1.putL h.1 h.2.2 _ _)⟩
theorem flatten_get : ∀ (m : Nat) (z : List Value) (i : Nat), i < m * z.length → (List.replicate m z).flatten[i]? = z[i % z.length]?
  | 0, z, i, h => by simp at h
  | m + 1, z, i, h => by
    rw [List.replicate_succ, List.flatten_cons]
    by_cases hi : i < z.length
    · rw [List.getElem?_append_left hi, Nat.mod_eq_of_lt hi]
    · rw [List.getElem?_append_right (by omega), flatten_get m z (i - z.length) (by rw [Nat.add_mul] at h; omega), ← Nat.mod_eq_sub_mod (by omega)]
theorem mkCells_eq (m : Nat) (z : List Value) : mkCells ⟨z⟩ (m * z.length) = ⟨(List.replicate m z).flatten⟩ := by
  have hl : (List.replicate m z).flatten.length = m * z.length := by simp
  apply Array.ext'
  apply List.ext_getElem?
  intro i
  unfold mkCells
  by_cases h : i < m * z.length
  · have h0 : ¬ m * z.length = 0 := by omega
    have hz : 0 < z.length := by
      rcases Nat.eq_zero_or_pos z.length with e | e
      · rw [e, Nat.mul_zero] at h; omega
      · exact e
    rw [flatten_get m z i h]
    have hlt : i % z.length < z.length := Nat.mod_lt _ hz
    simp only [if_neg h0, Array.toList_map, Array.toList_range, List.getElem?_map, List.getElem?_range h, Option.map_some]
    show some ((Array.mk z)[i % z.length]!) = _
    rw [List.getElem?_eq_getElem hlt]
    simp [hlt]
  · rw [List.getElem?_eq_none (by simp; omega), List.getElem?_eq_none (by rw [hl]; omega)]
/-- A new row of zero values. -/
theorem MkP.go (H : AtD D G w0 w L) {bytes size : Nat} {n m : Int} {z : List Value} {e : TypeId} {K : Nat → World → Prop} (hz : size = z.length) (h0 : 0 ≤ n) (h1 : n ≤ m) (h2 : m < 4611686018427387904) (h3 : bytes * m ≤ 281474976710656)
    (k : ∀ b w1, AtD D G w0 w1 ((b, (List.replicate m.toNat z).flatten) :: L) → K b w1) : MkP w bytes size n m ⟨z⟩ e K := fun w1 h => by
  refine ⟨⟨h0, h1, by omega, h3⟩, ?_⟩
  rw [hz, mkCells_eq]
  exact k _ _ ((H.ext h).alloc _ e)
theorem flat_replicate (e : El) (x : e.T) (m : Nat) : flat e (List.replicate m x) = (List.replicate m (cellsOf e x)).flatten := by
  simp [flat, List.flatMap_replicate]
/-- A row is copied. -/
theorem apR.copy (H : AtD D G w0 w L) {e : El} {ys : List e.T} {b n c : Nat} {l : List Value} (hb : Blk w b l) (hl : l.take (ys.length * stride e) = flat e ys) (hn : n = ys.length) (hy : ys ≠ []) (hp : plainE e = true) {t : TypeId} {size bytes : Nat} {z : Array Value} (hsz : size = stride e) (hz : z.size = stride e) (hbb : ys.length * bytes ≤ 140737488355328)
    {R : Option Addr × Nat × Nat → World → Prop} (k : ∀ b' c' rest w', AtD D G w0 w' ((b', flat e ys ++ rest) :: L) → R (some ⟨b', 0, none⟩, n, c') w') :
    apR w t size bytes z (none, 0, 0) (some ⟨b, 0, none⟩, n, c) R := by
  subst hsz; subst hn
  refine own_append (w0 := w) (xs := []) (ys := ys) (Own.nil w w e) (Ext.refl w) hp rfl ?_ hz (by simpa using hbb) fun s' w' ho he _ _ _ => ?_
  · refine hb.rdN (flat_length e ys) fun i hi => ?_
    rw [← hl, Nat.zero_add, List.getElem?_take_of_lt hi]
  · obtain ⟨b', c', rest, rfl, H'⟩ := H.got he ho (by simpa using hy)
    exact k b' c' rest w' (by simpa using H')
/-- A function's end closes the marks. -/
theorem ClP.go {r : Nat} {K : World → Prop} (H : AtD [r] G w0 w L) (k : ∀ w1, At G w0 w1 L → K w1) : ClP [r] w K := fun w1 h => by
  have H1 := H.ext h
  have hr := H1.mks r (by simp)
  refine ⟨⟨hr.2, trivial⟩, k _ ?_⟩
  have H2 : At G w0 w1 L := ⟨H1.fr, H1.blk, H1.own, H1.nd, fun x hx => by cases hx⟩
  exact H2.putObj hr.1 hr.2 (fun _ _ _ hc => by cases hc) (by simp)
/-- **A range over a function.** -/
theorem RnP.inv {P : Program} {fid : FuncId} {args : Nat → List Value} {ps : Array Nat} {T : Type} {em : T → List Value} {Rd : Nat → Loop → T → World → (Bool → World → Prop) → Prop} {Af : Nat → Loop → World → Prop} (H : AtD D G w0 w L)
    {n : Nat} {yv : Nat → Option (List Value)} {St : World → Prop} (It : ItOk P fid args n yv St) (Inv : Nat → List (Nat × List Value) → Prop) (Q : Code → List (Nat × List Value) → Prop) (h0 : Inv 0 L)
    (hSt : ∀ D' i w' L', Inv i L' → AtD D' G w0 w' L' → St w') (hskip : ∀ i L', i < n → yv i = none → Inv i L' → Inv (i + 1) L') (hyv : ∀ i v, i < n → yv i = some v → ∃ x, v = em x)
    (hbody : ∀ i x L', i < n → yv i = some (em x) → Inv i L' → ∀ r l rec w3 (R : Bool → World → Prop), Rdy (r :: D) G w0 w3 L' l rec → (∀ L'' w', Inv (i + 1) L'' → Rdy (r :: D) G w0 w' L'' l rec → R true w') → (∀ j L'' w', Q j L'' → Lft (r :: D) G w0 w' L'' l rec j → R false w') → Rd l rec x w3 R)
    (hn : ∀ L' r rec w4, Inv n L' → Rdy (r :: D) G w0 w4 L' (r + 1) rec → Af r rec w4) (hd : ∀ j L' r rec w4, Q j L' → Lft (r :: D) G w0 w4 L' (r + 1) rec j → Af r rec w4) : RnP P fid args ps w em Rd Af := by
  intro w1 h1 rec _ _ hst hpd hyield
  have H1 := H.ext h1
  have sz : (w1.alloc (.deferred (some []))).heap.size = w1.heap.size + 1 := alloc_size _ _
  have hrec : rec = { rec with state := .ready, pending := .none } := by rw [← hst, ← hpd]
  have hsz : w0.heap.size ≤ w1.heap.size := H1.fr.size
  have hW : Rdy (w1.heap.size :: D) G w0 ((w1.alloc (.deferred (some []))).alloc (.loop rec)) L (w1.heap.size + 1) rec := by
    refine ⟨by omega, ?_, ?_⟩
    · have H2 := (H1.allocO (.deferred (some []))).allocO (.loop rec)
      refine ⟨H2.fr, H2.blk, H2.own, H2.nd, fun r hr => ?_⟩
      rcases List.mem_cons.1 hr with rfl | hr
      · exact ⟨hsz, (Ext.alloc _ _).obj (alloc_self w1 _)⟩
      · exact H2.mks r hr
    · have := alloc_self (w1.alloc (.deferred (some []))) (.loop rec)
      rw [sz] at this
      unfold LoopAt; rw [this, ← hrec]
  refine Calls.mono (It (w1.heap.size + 1) _ (fun i w' => ∃ L', Inv i L' ∧ Rdy (w1.heap.size :: D) G w0 w' L' (w1.heap.size + 1) rec) (fun w' => ∃ j L', Q j L' ∧ Lft (w1.heap.size :: D) G w0 w' L' (w1.heap.size + 1) rec j) ?_ ?_ ?_ ?_ ?_ ⟨L, h0, hW⟩) ?_
  · exact fun i a b ⟨L', hi, h⟩ k => ⟨L', hi, h.1, h.2.1.ext k, h.2.2.ext k⟩
  · exact fun a b ⟨j, L', hq, h⟩ k => ⟨j, L', hq, h.1, h.2.1.ext k, h.2.2.ext k⟩
  · exact fun i a ⟨L', hi, h⟩ => hSt _ i a L' hi h.2.1
  · exact fun i hi hy a ⟨L', hI, h⟩ => ⟨L', hskip i L' hi hy hI, h⟩
  · intro i v hi hy a R ⟨L', hI, hJ⟩ hR1 hR2
    obtain ⟨x, rfl⟩ := hyv i v hi hy
    exact hyield x a R (hbody i x L' hi hy hI _ _ _ _ R hJ (fun L'' w' hI' hr => hR1 w' ⟨L'', hI', hr⟩) fun j L' w' hq hl => hR2 w' ⟨j, L', hq, hl⟩)
  · rintro e a ⟨v, he, ⟨L', hI, h⟩ | ⟨j, L', hq, h⟩⟩
    · exact ⟨v, he, hn L' _ _ _ hI h⟩
    · exact ⟨v, he, hd j L' _ _ _ hq h⟩
theorem RnP.go {P : Program} {fid : FuncId} {args : Nat → List Value} {ps : Array Nat} {T : Type} {em : T → List Value} {Rd : Nat → Loop → T → World → (Bool → World → Prop) → Prop} {Af : Nat → Loop → World → Prop} (H : AtD D G w0 w L)
    {n : Nat} {yv : Nat → Option (List Value)} {St : World → Prop} (It : ItOk P fid args n yv St) (Ls : Nat → List (Nat × List Value)) (Q : Code → List (Nat × List Value) → Prop) (h0 : Ls 0 = L)
    (hSt : ∀ D' i w', AtD D' G w0 w' (Ls i) → St w') (hskip : ∀ i, i < n → yv i = none → Ls (i + 1) = Ls i) (hyv : ∀ i v, i < n → yv i = some v → ∃ x, v = em x)
    (hbody : ∀ i x, i < n → yv i = some (em x) → ∀ r l rec w3 (R : Bool → World → Prop), Rdy (r :: D) G w0 w3 (Ls i) l rec → (∀ w', Rdy (r :: D) G w0 w' (Ls (i + 1)) l rec → R true w') → (∀ j L' w', Q j L' → Lft (r :: D) G w0 w' L' l rec j → R false w') → Rd l rec x w3 R)
    (hn : ∀ r rec w4, Rdy (r :: D) G w0 w4 (Ls n) (r + 1) rec → Af r rec w4) (hd : ∀ j L' r rec w4, Q j L' → Lft (r :: D) G w0 w4 L' (r + 1) rec j → Af r rec w4) : RnP P fid args ps w em Rd Af :=
  RnP.inv H It (fun i L' => L' = Ls i) Q h0.symm (fun D' i w' L' hI h => hSt D' i w' (by rw [← hI]; exact h)) (fun i L' hi hy hI => by rw [hskip i hi hy]; exact hI) hyv
    (fun i x L' hi hy hI r l rec w3 R hr h1 h2 => hbody i x hi hy r l rec w3 R (by rw [← hI]; exact hr) (fun w' h => h1 _ w' rfl h) h2) (fun L' r rec w4 hI h => hn r rec w4 (by rw [← hI]; exact h)) hd
theorem AtD.notin (H : AtD D G w0 w L) {b : Nat} (hb : b < w0.heap.size) (hG : b ∉ G) : b ∉ L.map (·.1) := fun hm => by
  obtain ⟨x, hx, e⟩ := List.mem_map.1 hm
  rcases H.own x hx with h | h
  · rw [e] at h; omega
  · rw [e] at h; exact hG h
/-- What lay there before a round, and is none of the known blocks. -/
theorem AtD.keep {wb w1 : World} {L' : List (Nat × List Value)} (H : AtD D G w0 wb L) (K : At (L.map (·.1)) wb w1 L') {b : Nat} {l : List Value} (h : Blk w0 b l) (hG : b ∉ G) : Blk w1 b l :=
  K.old (H.old h hG) (H.notin h.lt hG)
theorem At.start1 {b : Nat} {l : List Value} (h : Blk w b l) : At [b] w w [(b, l)] where
  fr := Fr.refl _ w
  blk := fun x hx => by rw [List.mem_singleton.1 hx]; exact h
  own := fun x hx => .inr (by rw [List.mem_singleton.1 hx]; simp)
  nd := by simp
  mks := fun x hx => by cases hx
theorem AtD.fr1 {b : Nat} {w1 : World} {l : List (Nat × List Value)} (H : At [b] w w1 l) : Fr [b] w w1 := H.fr
/-! Rows of elements in a known block. -/
theorem rd_flat {w : World} {b : Nat} {e : El} {xs : List e.T} {rest : List Value} (h : Blk w b (flat e xs ++ rest)) {i : Nat} {x : e.T} (hx : xs[i]? = some x) : rdAt w (addP (some ⟨b, 0, none⟩) (i * stride e)) e x :=
  (Sl.of_blk h (by rw [List.take_append_of_le_length (by rw [flat_length]; exact Nat.le_refl _), List.take_of_length_le (by rw [flat_length]; exact Nat.le_refl _)]) i x hx).2
theorem flat_set (e : El) : ∀ (xs : List e.T) (i : Nat) (y : e.T) (rest : List Value), i < xs.length → (flat e xs ++ rest).take (i * stride e) ++ (cellsOf e y ++ (flat e xs ++ rest).drop (i * stride e + (cellsOf e y).length)) = flat e (xs.set i y) ++ rest
  | [], i, y, rest, h => by simp at h
  | x :: xs, 0, y, rest, _ => by
    simp only [flat, List.flatMap_cons, Nat.zero_mul, List.take_zero, List.nil_append, Nat.zero_add, List.set_cons_zero, List.append_assoc]
    congr 1
    rw [cellsOf_length, ← cellsOf_length e x, List.drop_left]
  | x :: xs, i + 1, y, rest, h => by
    have ih := flat_set e xs i y rest (by simpa using h)
    have e1 : (i + 1) * stride e = (cellsOf e x).length + i * stride e := by rw [cellsOf_length, Nat.add_mul]; omega
    simp only [flat, List.flatMap_cons, List.set_cons_succ, List.append_assoc] at ih ⊢
    rw [e1, List.take_length_add_append, List.append_assoc, Nat.add_assoc, List.drop_length_add_append, ih]
theorem StP.flat (j : Nat) (H : AtD D G w0 w L) {b i : Nat} {e : El} {xs : List e.T} {rest vs : List Value} (y : e.T) {K : World → Prop} (hL : L[j]? = some (b, RX.flat e xs ++ rest)) (hv : vs = cellsOf e y) (hp : plainE e = true) (hi : i < xs.length)
    (k : ∀ w1, AtD D G w0 w1 (L.set j (b, RX.flat e (xs.set i y) ++ rest)) → K w1) : StP w (addP (some ⟨b, 0, none⟩) (i * stride e)) vs K := by
  rw [addP_B, Nat.zero_add]
  subst hv
  refine StP.at j H hL ?_ ?_ fun w1 h1 => k w1 ?_
  · have := oneCells_flat e [y] hp
    simpa [RX.flat] using this
  · rw [cellsOf_length, List.length_append, flat_length]
    have : (i + 1) * stride e ≤ xs.length * stride e := Nat.mul_le_mul_right _ hi
    rw [Nat.add_mul] at this
    omega
  · rw [flat_set e xs i y rest hi] at h1; exact h1
/-- A call that changes one known block. -/
theorem CaP.mod1 (H : AtD D G w0 w L) (j : Nat) {b : Nat} {l l' : List Value} (hL : L[j]? = some (b, l)) {P : Program} {f : FuncId} {s : Sh} {args : List Value} {v : s.T} {K : s.T → World → Prop}
    (hc : ∀ w1, AtD D G w0 w1 L → CallsR P f s args w1 (fun x w' => x = v ∧ Blk w' b l' ∧ Fr [b] w1 w')) (k : ∀ w2, AtD D G w0 w2 (L.set j (b, l')) → K v w2) : CaP P f s args w K := fun w1 h =>
  (hc w1 (H.ext h)).mono fun x w2 ⟨hx, hb, hf⟩ => by subst hx; exact k w2 ((H.ext h).mod j hL hf hb)
/-- A call that leaves old memory alone and hands back a value. -/
theorem CaP.val (H : AtD D G w0 w L) {P : Program} {f : FuncId} {s : Sh} {args : List Value} (v : s.T) {K : s.T → World → Prop}
    (hc : ∀ w1, AtD D G w0 w1 L → CallsR P f s args w1 (fun x w' => x = v ∧ Ext w1 w')) (k : ∀ w2, AtD D G w0 w2 L → K v w2) : CaP P f s args w K := fun w1 h =>
  (hc w1 (H.ext h)).mono fun x w2 ⟨hx, hx2⟩ => by subst hx; exact k w2 ((H.ext h).ext hx2)
/-- A quiet call inside a region that is evaluated in place. -/
theorem QCalls.of {P : Program} {f : FuncId} {s : Sh} {args : List Value} {v : s.T} (h : ∀ w', Ext w w' → CallsR P f s args w' (fun x w'' => x = v ∧ Ext w' w'')) : QCalls P f args w (s.emb v) :=
  fun w' hw => entry_of (h w' hw)
/-! A row that grows, among the known blocks. -/
theorem AtD.grow {e : El} {s : Option Addr × Nat × Nat} {xs : List e.T} {x : e.T} {b : Nat} {Ls L0 : List (Nat × List Value)} (H : AtD D G w0 w ((b, cellsOf e x) :: (Ls ++ L0)))
    (hs : (s = (none, 0, 0) ∧ xs = [] ∧ Ls = []) ∨ ∃ bs c rest, s = (some ⟨bs, 0, none⟩, xs.length, c) ∧ Ls = [(bs, flat e xs ++ rest)] ∧ (flat e xs ++ rest).length = c * stride e ∧ xs.length ≤ c)
    (hp : plainE e = true) {t : TypeId} {size bytes : Nat} {z : Array Value} (hsz : size = stride e) (hz : z.size = stride e) (hb : (xs.length + 1) * bytes ≤ 140737488355328)
    {R : Option Addr × Nat × Nat → World → Prop} (k : ∀ bs c rest w', (flat e (xs ++ [x]) ++ rest).length = c * stride e → xs.length + 1 ≤ c → AtD D G w0 w' ((bs, flat e (xs ++ [x]) ++ rest) :: L0) → R (some ⟨bs, 0, none⟩, xs.length + 1, c) w') :
    apR w t size bytes z s (some ⟨b, 0, none⟩, 1, 1) R := by
  subst hsz
  have tz : (trunc 0 w).heap.size = 0 := trunc_size (Nat.zero_le _)
  have ho : Own (trunc 0 w) w e s xs := by
    rcases hs with ⟨rfl, rfl, _⟩ | ⟨bs, c, rest, rfl, rfl, h1, h2⟩
    · exact Own.nil _ _ _
    · refine ⟨rfl, h2, .inr ⟨bs, _, rfl, by rw [tz]; exact Nat.zero_le _, H.get (i := 1) rfl, h1, ?_⟩⟩
      rw [List.take_append_of_le_length (by rw [flat_length]; exact Nat.le_refl _), List.take_of_length_le (by rw [flat_length]; exact Nat.le_refl _)]
  have hblk : Blk w b (cellsOf e x) := H.get (i := 0) rfl
  refine own_append (ys := [x]) ho (trunc_ext (Nat.zero_le _)) hp rfl ?_ hz hb fun s' w' ho' he' hf hsz hd => ?_
  · refine hblk.rdN (flat_length e [x]) fun j hj => ?_
    simp [flat]
  · obtain ⟨p, n, c⟩ := s'
    obtain ⟨h1, h2, h3⟩ := ho'
    simp only at h1 h2 h3 hd
    have hlen : (xs ++ [x]).length = xs.length + 1 := by simp
    rcases h3 with ⟨_, hx, _⟩ | ⟨bs, l, a1, _, a3, a4, a5⟩
    · simp at hx
    · subst a1
      rw [hlen] at h1 h2
      subst h1
      have el : l = flat e (xs ++ [x]) ++ l.drop ((xs ++ [x]).length * stride e) := by rw [← a5, List.take_append_drop]
      refine k bs c (l.drop ((xs ++ [x]).length * stride e)) w' (by rw [← el]; exact a4) h2 ?_
      rw [← el]
      -- which block it is
      have hG' : ∃ G', Fr G' w w' ∧ (∀ y ∈ G', y ∈ Ls.map (·.1)) := by
        rcases hs with ⟨rfl, _, rfl⟩ | ⟨bo, co, ro, rfl, rfl, _, _⟩
        · exact ⟨[], ⟨he'.os, he'.tape, he'.output, hsz, fun y hy _ => hf y hy (fun a ha => by cases ha)⟩, fun y hy => by cases hy⟩
        · exact ⟨[bo], ⟨he'.os, he'.tape, he'.output, hsz, fun y hy hn => hf y hy (fun a ha => by cases ha; simpa using hn)⟩, fun y hy => by simpa using hy⟩
      obtain ⟨G', hfr, hGs⟩ := hG'
      have hnd := H.nd
      simp only [List.map_cons, List.map_append, List.nodup_cons, List.nodup_append, List.mem_append] at hnd
      have memS : ∀ y ∈ Ls.map (·.1), w0.heap.size ≤ y ∨ y ∈ G := fun y hy => by
        obtain ⟨u, hu, rfl⟩ := List.mem_map.1 hy
        exact H.own u (List.mem_cons_of_mem _ (List.mem_append_left _ hu))
      have hbs : bs ∈ Ls.map (·.1) ∨ w.heap.size ≤ bs := by
        rcases hd with ⟨a, e1, e2⟩ | ⟨a, e1, e2⟩ | e1
        · cases e1
          rcases hs with ⟨rfl, _, _⟩ | ⟨bo, co, ro, rfl, rfl, _, _⟩
          · cases e2
          · cases e2; exact .inl (by simp)
        · cases e1; exact .inr e2
        · rcases hs with ⟨rfl, _, _⟩ | ⟨bo, co, ro, rfl, rfl, _, _⟩
          · cases e1
          · exact absurd (congrArg (fun z => z.2.1) e1) (by simp)
      refine H.frame hfr (fun y hy => memS y (hGs y hy)) (fun r hr hy => ?_) (fun y hy => ?_) (fun y hy => ?_) ?_
      · obtain ⟨u, hu, e1⟩ := List.mem_map.1 (hGs r hy)
        exact AtD.blk_ne_obj (H.blk u (List.mem_cons_of_mem _ (List.mem_append_left _ hu))) (H.mks r hr).2 (fun _ _ _ hc => by cases hc) e1
      · rcases List.mem_cons.1 hy with rfl | hy
        · exact a3
        · refine hfr.blk (fun hm => ?_) (H.blk y (List.mem_cons_of_mem _ (List.mem_append_right _ hy)))
          exact hnd.2.2.2 y.1 (hGs _ hm) y.1 (List.mem_map.2 ⟨y, hy, rfl⟩) rfl
      · rcases List.mem_cons.1 hy with rfl | hy
        · rcases hbs with h | h
          · exact memS _ h
          · exact .inl (Nat.le_trans H.fr.size h)
        · exact H.own y (List.mem_cons_of_mem _ (List.mem_append_right _ hy))
      · refine List.nodup_cons.2 ⟨fun hm => ?_, hnd.2.2.1⟩
        rcases hbs with h | h
        · exact hnd.2.2.2 bs h bs hm rfl
        · obtain ⟨u, hu, e1⟩ := List.mem_map.1 hm
          have := (H.blk u (List.mem_cons_of_mem _ (List.mem_append_right _ hu))).lt
          simp only at e1 h
          omega
/-- A row that was handed back: none, or one of the known blocks. -/
def RowIn (e : El) (rows : List (Nat × List Value)) (r : Option Addr × Nat × Nat) (xs : List e.T) : Prop :=
  r.2.1 = xs.length ∧ ((xs = [] ∧ rows = []) ∨ ∃ b rest, r.1 = some ⟨b, 0, none⟩ ∧ rows = [(b, RX.flat e xs ++ rest)])
theorem AtD.gotR {w' : World} (H : AtD D G w0 w L) (h : Ext w w') {e : El} {r : Option Addr × Nat × Nat} {xs : List e.T} (ho : Own w w' e r xs) : ∃ rows, AtD D G w0 w' (L ++ rows) ∧ RowIn e rows r xs := by
  by_cases hx : xs = []
  · exact ⟨[], by rw [List.append_nil]; exact H.ext h, ho.len, .inl ⟨hx, rfl⟩⟩
  · obtain ⟨b, c, rest, rfl, H2⟩ := H.got h ho hx
    exact ⟨[(b, RX.flat e xs ++ rest)], H2.perm (List.perm_append_singleton _ _), rfl, .inr ⟨b, rest, rfl, rfl⟩⟩
theorem RowIn.sl {e : El} {rows : List (Nat × List Value)} {r : Option Addr × Nat × Nat} {xs : List e.T} (h : RowIn e rows r xs) (H : AtD D G w0 w L) (hm : ∀ x ∈ rows, x ∈ L) : Sl w e r.1 xs := by
  rcases h.2 with ⟨rfl, _⟩ | ⟨b, rest, h1, rfl⟩
  · intro i x hx; simp at hx
  · rw [h1]
    refine Sl.of_blk (H.blk _ (hm _ (List.mem_singleton.2 rfl))) ?_
    rw [List.take_append_of_le_length (by rw [flat_length]; exact Nat.le_refl _), List.take_of_length_le (by rw [flat_length]; exact Nat.le_refl _)]
/-- A call that hands back a row. -/
theorem CaP.rowR (H : AtD D G w0 w L) {P : Program} {f : FuncId} {args : List Value} {e : El} {xs : List e.T} {K : (Option Addr × Nat × Nat) → World → Prop}
    (hc : ∀ w', AtD D G w0 w' L → CallsR P f (.el (.one .slice)) args w' (fun r w'' => Own w' w'' e r xs ∧ Ext w' w'')) (k : ∀ r rows w1, AtD D G w0 w1 (L ++ rows) → RowIn e rows r xs → K r w1) :
    CaP P f (.el (.one .slice)) args w K := fun w1 h => (hc w1 (H.ext h)).mono fun x w2 ⟨ho, hx2⟩ => by
  obtain ⟨rows, H2, hr⟩ := (H.ext h).gotR hx2 ho
  exact k x rows w2 H2 hr
end
end Go.RX
