import Derived.Test.YtdpbeelopakdiaaRx
/-! What is known of the world while a function goes on: blocks and what lies in them; what has been left alone. -/
namespace Go.RX
open Go.RowKit

/-- 'w'' is 'w' with more, but for the blocks G. -/
structure Fr (G : List Nat) (w w' : World) : Prop where
  os : w'.os = w.os
  tape : w'.tape = w.tape
  output : w'.output = w.output
  size : w.heap.size ≤ w'.heap.size
  block : ∀ k, k < w.heap.size → k ∉ G → w'.heap[k]? = w.heap[k]?
theorem Fr.refl (G : List Nat) (w : World) : Fr G w w := ⟨rfl, rfl, rfl, Nat.le_refl _, fun _ _ _ => rfl⟩
theorem Fr.trans {G : List Nat} {a b c : World} (h : Fr G a b) (k : Fr G b c) : Fr G a c :=
  ⟨k.os.trans h.os, k.tape.trans h.tape, k.output.trans h.output, Nat.le_trans h.size k.size, fun j hj hn => (k.block j (Nat.lt_of_lt_of_le hj h.size) hn).trans (h.block j hj hn)⟩
theorem Fr.of_ext {G : List Nat} {w w' : World} (h : Ext w w') : Fr G w w' := ⟨h.os, h.tape, h.output, h.size, fun _ hk _ => h.block hk⟩
theorem Fr.ext {w w' : World} (h : Fr [] w w') : Ext w w' := ⟨h.os, h.tape, h.output, h.size, fun k hk => h.block k hk (by simp)⟩
theorem Fr.mono {G G' : List Nat} {w w' : World} (h : Fr G w w') (hs : ∀ x ∈ G, x ∈ G') : Fr G' w w' := ⟨h.os, h.tape, h.output, h.size, fun k hk hn => h.block k hk fun hm => hn (hs k hm)⟩
theorem Fr.blk {G : List Nat} {w w' : World} (h : Fr G w w') {b : Nat} {l : List Value} (hb : b ∉ G) (k : Blk w b l) : Blk w' b l := k.same (h.block b k.lt hb)
theorem Fr.putP {G : List Nat} {w0 w : World} (h : Fr G w0 w) {a : Addr} (ha : w0.heap.size ≤ a.block ∨ a.block ∈ G) (vs : List Value) : Fr G w0 (putP w (some a) vs) := by
  have env : ∀ (vs : List Value) (w : World) (i : Nat), (putAt w a vs i).os = w.os ∧ (putAt w a vs i).tape = w.tape ∧ (putAt w a vs i).output = w.output := by
    intro vs
    induction vs with
    | nil => intro w i; exact ⟨rfl, rfl, rfl⟩
    | cons v r ih =>
      intro w i
      have := ih (w.setCell (a.add i) v) (i + 1)
      simp only [putAt]
      exact this
  obtain ⟨e1, e2, e3⟩ := env vs w 0
  refine ⟨e1.trans h.os, e2.trans h.tape, e3.trans h.output, ?_, fun k hk hn => ?_⟩
  · show _ ≤ (putAt w a vs 0).heap.size
    rw [putAt_size]; exact h.size
  · have hne : k ≠ a.block := by
      intro e
      rcases ha with ha | ha
      · omega
      · rw [← e] at ha; exact hn ha
    exact (putAt_ne vs w a 0 k hne).trans (h.block k hk hn)

/-- What is known of a world: G may have changed since w0; L's blocks (new ones, or of G) hold what it says. -/
structure At (G : List Nat) (w0 w : World) (L : List (Nat × List Value)) : Prop where
  fr : Fr G w0 w
  blk : ∀ x ∈ L, Blk w x.1 x.2
  own : ∀ x ∈ L, w0.heap.size ≤ x.1 ∨ x.1 ∈ G
  nd : (L.map (·.1)).Nodup
theorem At.start (G : List Nat) (w : World) : At G w w [] where
  fr := Fr.refl G w
  blk := fun x hx => by cases hx
  own := fun x hx => by cases hx
  nd := List.nodup_nil
theorem At.ext {G : List Nat} {w0 w w1 : World} {L : List (Nat × List Value)} (H : At G w0 w L) (h : Ext w w1) : At G w0 w1 L :=
  ⟨H.fr.trans (.of_ext h), fun x hx => (H.blk x hx).ext h, H.own, H.nd⟩
theorem At.all {w0 w : World} {L : List (Nat × List Value)} (H : At [] w0 w L) : Ext w0 w := H.fr.ext
theorem At.get {G : List Nat} {w0 w : World} {L : List (Nat × List Value)} (H : At G w0 w L) {i b : Nat} {l : List Value} (h : L[i]? = some (b, l)) : Blk w b l := H.blk _ (List.mem_of_getElem? h)
theorem At.ne {G : List Nat} {w0 w : World} {L : List (Nat × List Value)} (H : At G w0 w L) {i j b c : Nat} {l m : List Value} (h : L[i]? = some (b, l)) (k : L[j]? = some (c, m)) (hij : i ≠ j) : b ≠ c := by
  intro e
  subst e
  have hi : i < L.length := (List.getElem?_eq_some_iff.1 h).1
  have hj : j < L.length := (List.getElem?_eq_some_iff.1 k).1
  have := (List.nodup_iff_pairwise_ne.1 H.nd)
  have h1 : (L.map (·.1))[i]? = some b := by rw [List.getElem?_map, h]; rfl
  have h2 : (L.map (·.1))[j]? = some b := by rw [List.getElem?_map, k]; rfl
  exact hij ((List.getElem?_inj (by simpa using hi) H.nd).1 (h1.trans h2.symm))
theorem At.alloc {G : List Nat} {w0 w : World} {L : List (Nat × List Value)} (H : At G w0 w L) (cs : List Value) (t : TypeId) : At G w0 (w.alloc (.cells ⟨cs⟩ t)) ((w.heap.size, cs) :: L) := by
  have H1 := H.ext (Ext.alloc w (.cells ⟨cs⟩ t))
  refine ⟨H1.fr, fun x hx => ?_, fun x hx => ?_, ?_⟩
  · rcases List.mem_cons.1 hx with rfl | hx
    · exact Blk.new w cs t
    · exact H1.blk x hx
  · rcases List.mem_cons.1 hx with rfl | hx
    · exact .inl H.fr.size
    · exact H1.own x hx
  · refine List.nodup_cons.2 ⟨fun hm => ?_, H.nd⟩
    obtain ⟨x, hx, e⟩ := List.mem_map.1 hm
    have := (H.blk x hx).lt
    rw [e] at this
    exact Nat.lt_irrefl _ this
/-- A new block of any kind, that is not kept in the list. -/
theorem At.allocO {G : List Nat} {w0 w : World} {L : List (Nat × List Value)} (H : At G w0 w L) (o : Obj) : At G w0 (w.alloc o) L := H.ext (Ext.alloc w o)
theorem At.put {G : List Nat} {w0 w : World} {L : List (Nat × List Value)} (H : At G w0 w L) (i : Nat) {b o : Nat} {l : List Value} (h : L[i]? = some (b, l)) (vs : List Value) (hn : o + vs.length ≤ l.length) :
    At G w0 (putP w (some ⟨b, o, none⟩) vs) (L.set i (b, l.take o ++ (vs ++ l.drop (o + vs.length)))) := by
  have hi : i < L.length := (List.getElem?_eq_some_iff.1 h).1
  have hm : (b, l) ∈ L := List.mem_of_getElem? h
  refine ⟨H.fr.putP (a := ⟨b, o, none⟩) (H.own _ hm) vs, fun x hx => ?_, fun x hx => ?_, ?_⟩
  · obtain ⟨j, hj⟩ := List.getElem?_of_mem hx
    by_cases e : i = j
    · subst e
      rw [List.getElem?_set_self hi] at hj
      cases hj
      exact (H.get h).put vs hn
    · rw [List.getElem?_set_ne e] at hj
      have hne : x.1 ≠ b := fun e' => by
        obtain ⟨x1, x2⟩ := x
        exact H.ne hj h (fun e2 => e e2.symm) e'
      exact (H.blk x (List.mem_of_getElem? hj)).putNe (a := ⟨b, o, none⟩) hne vs
  · rcases List.mem_or_eq_of_mem_set hx with hx | rfl
    · exact H.own x hx
    · exact H.own (b, l) hm
  · have : (L.set i (b, l.take o ++ (vs ++ l.drop (o + vs.length)))).map (·.1) = L.map (·.1) := by
      apply List.ext_getElem?
      intro j
      rw [List.getElem?_map, List.getElem?_map]
      by_cases e : i = j
      · subst e; rw [List.getElem?_set_self hi, h]; rfl
      · rw [List.getElem?_set_ne e]
    rw [this]; exact H.nd
theorem At.old {G : List Nat} {w0 w : World} {L : List (Nat × List Value)} (H : At G w0 w L) {b : Nat} {l : List Value} (h : Blk w0 b l) (hb : b ∉ G) : Blk w b l := H.fr.blk hb h
/-- What is known is forgotten, or put in another order. -/
theorem At.sub {G : List Nat} {w0 w : World} {L L' : List (Nat × List Value)} (H : At G w0 w L) (h : L'.Sublist L) : At G w0 w L' :=
  ⟨H.fr, fun x hx => H.blk x (h.subset hx), fun x hx => H.own x (h.subset hx), (h.map _).nodup H.nd⟩
theorem At.nil {G : List Nat} {w0 w : World} {L : List (Nat × List Value)} (H : At G w0 w L) : At G w0 w [] := H.sub (List.nil_sublist _)

/-- What lies in a row of cells from o on. -/
def elAt (l : List Value) (o : Nat) : (el : El) → Option el.T
  | .one s => match l[o]? with
    | some v => s.proj v
    | none => none
  | .agg ss => scsProj ss ((l.drop o).take ss.length)
theorem elAt_rd {w : World} {b o : Nat} {l : List Value} (h : Blk w b l) {el : El} {x : el.T} (hx : elAt l o el = some x) : rdAt w (some ⟨b, o, none⟩) el x := by
  cases el with
  | one s =>
    simp only [elAt] at hx
    split at hx
    · rename_i v hv
      exact h.rd1 (by rw [hv, Sc.proj_emb hx])
    · cases hx
  | agg ss =>
    simp only [elAt] at hx
    have e := scsProj_emb hx
    refine h.rdA fun i hi => ?_
    rw [e, List.getElem?_take_of_lt hi, List.getElem?_drop]

theorem LdP.of {w : World} {g : Option Bool} {p : Option Addr} {el : El} {K : el.T → Prop} (x : el.T) (h : rdAt w p el x) (k : K x) : LdP w g p el K :=
  ⟨x, by cases g <;> first | exact h | exact fun _ => h, k⟩
theorem brP_pos {b : Bool} {x y : Prop} (e : b = true) (h : x) : brP b x y := brP_intro (fun _ => h) (fun c => by rw [e] at c; cases c)
theorem brP_neg {b : Bool} {x y : Prop} (e : b = false) (h : y) : brP b x y := brP_intro (fun c => by rw [e] at c; cases c) (fun _ => h)
section
variable {G : List Nat} {w0 w : World} {L : List (Nat × List Value)}
theorem LdP.at (i : Nat) (H : At G w0 w L) {g : Option Bool} {el : El} {K : el.T → Prop} {b o : Nat} {l : List Value} {x : el.T} (hL : L[i]? = some (b, l)) (hv : elAt l o el = some x) (k : K x) : LdP w g (some ⟨b, o, none⟩) el K :=
  .of x (elAt_rd (H.get hL) hv) k
theorem LdP.atA (i : Nat) (H : At G w0 w L) {g : Option Bool} {el : El} {K : el.T → Prop} {b o n : Nat} {l : List Value} {x : el.T} (hL : L[i]? = some (b, l)) (hv : elAt l (o + n) el = some x) (k : K x) : LdP w g (addP (some ⟨b, o, none⟩) n) el K := by
  rw [addP_B]; exact .at i H hL hv k
theorem AlP.go (H : At G w0 w L) {cs : List Value} {e : TypeId} {K : Nat → World → Prop} (k : ∀ b w1, At G w0 w1 ((b, cs) :: L) → K b w1) : AlP w ⟨cs⟩ e K :=
  fun _ h => k _ _ ((H.ext h).alloc cs e)
theorem StP.at (i : Nat) (H : At G w0 w L) {b o : Nat} {l vs : List Value} {K : World → Prop} (hL : L[i]? = some (b, l)) (ho : vs.all (·.oneCell') = true) (hn : o + vs.length ≤ l.length)
    (k : ∀ w1, At G w0 w1 (L.set i (b, l.take o ++ (vs ++ l.drop (o + vs.length)))) → K w1) : StP w (some ⟨b, o, none⟩) vs K :=
  fun _ h => ⟨⟨ho, ((H.ext h).get hL).st hn⟩, k _ ((H.ext h).put i hL vs hn)⟩
theorem StP.all (i : Nat) (H : At G w0 w L) {b : Nat} {l vs : List Value} {K : World → Prop} (hL : L[i]? = some (b, l)) (ho : vs.all (·.oneCell') = true) (hn : vs.length = l.length)
    (k : ∀ w1, At G w0 w1 (L.set i (b, vs)) → K w1) : StP w (some ⟨b, 0, none⟩) vs K := by
  refine StP.at i H hL ho (by omega) fun w1 h1 => k w1 ?_
  rw [Nat.zero_add, hn, List.drop_length, List.append_nil, List.take_zero, List.nil_append] at h1
  exact h1
theorem StP.one (i : Nat) (H : At G w0 w L) {b o : Nat} {l : List Value} {x : Value} {K : World → Prop} (hL : L[i]? = some (b, l)) (ho : x.oneCell' = true) (hn : Nat.blt o l.length = true)
    (k : ∀ w1, At G w0 w1 (L.set i (b, l.set o x)) → K w1) : StP w (some ⟨b, o, none⟩) [x] K := by
  have hn : o < l.length := by simpa [Nat.blt_eq] using hn
  refine StP.at i H hL (by simp [ho]) (by simp only [List.length_singleton]; omega) fun w1 h1 => k w1 ?_
  rw [show l.set o x = l.take o ++ ([x] ++ l.drop (o + [x].length)) from by simp [List.set_eq_take_append_cons_drop, hn]]
  exact h1
theorem StP.oneA (i : Nat) (H : At G w0 w L) {b o n : Nat} {l : List Value} {x : Value} {K : World → Prop} (hL : L[i]? = some (b, l)) (ho : x.oneCell' = true) (hn : Nat.blt (o + n) l.length = true)
    (k : ∀ w1, At G w0 w1 (L.set i (b, l.set (o + n) x)) → K w1) : StP w (addP (some ⟨b, o, none⟩) n) [x] K := by
  rw [addP_B]; exact StP.one i H hL ho hn k
theorem EnP.go (H : At G w0 w L) {K : World → Prop} (k : ∀ w1, At G w0 w1 L → K w1) : EnP w K := fun _ h => k _ (H.ext h)
theorem CaP.go (H : At G w0 w L) {P : Program} {f : FuncId} {s : Sh} {args : List Value} {K : s.T → World → Prop} (k : ∀ w1, At G w0 w1 L → CallsR P f s args w1 K) : CaP P f s args w K := fun _ h => k _ (H.ext h)
/-- A call of what leaves old memory alone. -/
theorem CaP.quiet (H : At G w0 w L) {P : Program} {f : FuncId} {s : Sh} {args : List Value} {R : s.T → Prop} {K : s.T → World → Prop} (hc : ∀ w, CallsR P f s args w (fun x w' => R x ∧ Ext w w')) (k : ∀ x w1, R x → At G w0 w1 L → K x w1) : CaP P f s args w K :=
  fun w1 h => (hc w1).mono fun x w2 ⟨hr, hx⟩ => k x w2 hr ((H.ext h).ext hx)
end
end Go.RX
namespace Go.RX
open Go.RowKit
theorem At.ownE {G : List Nat} {w0 wb w : World} {L Lb : List (Nat × List Value)} (_ : At G w0 wb L) (H : At [] wb w Lb) {e : El} {s : Option Addr × Nat × Nat} {xs : List e.T} (ho : Own w0 wb e s xs) : Own w0 w e s xs := ho.ext H.all
theorem At.then {G : List Nat} {w0 wb w : World} {L Lb : List (Nat × List Value)} (Hb : At G w0 wb L) (H : At [] wb w Lb) : At G w0 w L := Hb.ext H.all
theorem At.below {G : List Nat} {w0 w w' : World} (H : At G w0 w []) (h : Below w0.heap.size w w') (hs : w.heap.size ≤ w'.heap.size) : At G w0 w' [] where
  fr := ⟨h.os.trans H.fr.os, h.tape.trans H.fr.tape, h.output.trans H.fr.output, Nat.le_trans H.fr.size hs, fun k hk hn => (h.block k hk).trans (H.fr.block k hk hn)⟩
  blk := fun x hx => by cases hx
  own := fun x hx => by cases hx
  nd := List.nodup_nil
/-- One more element at a row's end; 'wb': the round's start. -/
theorem At.push0 {G : List Nat} {w0 wb w : World} {Lb : List (Nat × List Value)} (i : Nat) (Hb : At G w0 wb []) {e : El} {s : Option Addr × Nat × Nat} {xs : List e.T} (ho : Own w0 wb e s xs) (H : At [] wb w Lb)
    {b : Nat} {l : List Value} (x : e.T) (hL : Lb[i]? = some (b, l)) (hl : l = cellsOf e x) (hp : plainE e = true) {t : TypeId} {size bytes : Nat} {z : Array Value} (hsz : size = stride e) (hz : z.size = stride e) (hb : (xs.length + 1) * bytes ≤ 140737488355328)
    {R : Option Addr × Nat × Nat → World → Prop} (k : ∀ s' w', At G w0 w' [] → Own w0 w' e s' (xs ++ [x]) → R s' w') :
    apR w t size bytes z s (some ⟨b, 0, none⟩, 1, 1) R := by
  subst hsz; subst hl
  have H1 := H
  have hn : w0.heap.size ≤ w.heap.size := Nat.le_trans Hb.fr.size H1.fr.size
  have ho1 : Own (trunc w0.heap.size w) w e s xs := ((ho.ext H1.all).toN).of (Nat.le_of_eq (trunc_size hn))
  refine own_append (ys := [x]) ho1 (trunc_ext hn) hp rfl ?_ hz hb fun s' w' ho' he' _ hs _ => k s' w' ((Hb.then H1).below (below_of_trunc hn he' hs) hs) ?_
  · refine (H1.get hL).rdN (flat_length e [x]) fun j hj => ?_
    simp [flat]
  · have := ho'.toN
    rw [trunc_size hn] at this
    exact this
theorem LdP.old {G : List Nat} {w0 w : World} {L : List (Nat × List Value)} (H : At G w0 w L) {b o : Nat} {l : List Value} (h : Blk w0 b l) (hb : b ∉ G) {g : Option Bool} {el : El} {K : el.T → Prop} {x : el.T} (hv : elAt l o el = some x) (k : K x) : LdP w g (some ⟨b, o, none⟩) el K :=
  .of x (elAt_rd (H.old h hb) hv) k
theorem LdP.oldA {G : List Nat} {w0 w : World} {L : List (Nat × List Value)} (H : At G w0 w L) {b o n : Nat} {l : List Value} (h : Blk w0 b l) (hb : b ∉ G) {g : Option Bool} {el : El} {K : el.T → Prop} {x : el.T} (hv : elAt l (o + n) el = some x) (k : K x) : LdP w g (addP (some ⟨b, o, none⟩) n) el K := by
  rw [addP_B]; exact .old H h hb hv k
theorem Own.start (w0 w : World) (e : El) : Own w0 w e (none, 0, 0) [] := Own.nil w0 w e
/-- A row that was handed back is one of the known blocks. -/
theorem At.got {G : List Nat} {w0 w w' : World} {L : List (Nat × List Value)} (H : At G w0 w L) (h : Ext w w') {e : El} {r : Option Addr × Nat × Nat} {xs : List e.T} (ho : Own w w' e r xs) (hx : xs ≠ []) :
    ∃ b c rest, r = (some ⟨b, 0, none⟩, xs.length, c) ∧ At G w0 w' ((b, flat e xs ++ rest) :: L) := by
  obtain ⟨h1, h2, h3⟩ := ho
  obtain ⟨p, n, c⟩ := r
  rcases h3 with ⟨_, h3, _⟩ | ⟨b, l, a1, a2, a3, _, a5⟩
  · exact absurd h3 hx
  · simp only at a1 h1
    subst a1; subst h1
    refine ⟨b, c, l.drop (xs.length * stride e), rfl, ?_⟩
    have el : l = flat e xs ++ l.drop (xs.length * stride e) := by rw [← a5, List.take_append_drop]
    have H1 := H.ext h
    refine ⟨H1.fr, fun x hx => ?_, fun x hx => ?_, ?_⟩
    · rcases List.mem_cons.1 hx with rfl | hx
      · rw [← el]; exact a3
      · exact H1.blk x hx
    · rcases List.mem_cons.1 hx with rfl | hx
      · exact .inl (Nat.le_trans H.fr.size a2)
      · exact H1.own x hx
    · refine List.nodup_cons.2 ⟨fun hm => ?_, H.nd⟩
      obtain ⟨x, hx, e⟩ := List.mem_map.1 hm
      have := (H.blk x hx).lt
      rw [e] at this
      exact absurd this (Nat.not_lt.2 a2)
/-- A call that hands back a new row. -/
theorem CaP.row {G : List Nat} {w0 w : World} {L : List (Nat × List Value)} (H : At G w0 w L) {P : Program} {f : FuncId} {args : List Value} {e : El} {xs : List e.T} {K : (Option Addr × Nat × Nat) → World → Prop} (hx : xs ≠ [])
    (hc : ∀ w', At G w0 w' L → CallsR P f (.el (.one .slice)) args w' (fun r w'' => Own w' w'' e r xs ∧ Ext w' w'')) (k : ∀ b c rest w1, At G w0 w1 ((b, flat e xs ++ rest) :: L) → K (some ⟨b, 0, none⟩, xs.length, c) w1) :
    CaP P f (.el (.one .slice)) args w K := fun w1 h => (hc w1 (H.ext h)).mono fun x w2 ⟨ho, hx2⟩ => by
  obtain ⟨b, c, rest, rfl, H2⟩ := (H.ext h).got hx2 ho hx
  exact k b c rest w2 H2
/-- A name for what is reckoned is let go. -/
theorem shr_go {α : Sort _} {e : α} {K : α → Prop} (k : K e) : ∀ x, x = e → K x := fun x hx => by rw [hx]; exact k
end Go.RX
