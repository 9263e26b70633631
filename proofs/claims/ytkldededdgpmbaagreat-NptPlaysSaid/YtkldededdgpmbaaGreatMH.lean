import Derived.Test.YtkldededdgpmbaaGreatMF
import Derived.Test.YtkldededdgpmbaaGreatME
import Derived.Test.YtkldededdgpmbaaGreatMG
namespace Go.Proofs.YtkldededdgpmbaaGreat
set_option linter.unusedSimpArgs false
set_option linter.unusedVariables false
set_option maxRecDepth 100000
open Go.RX D
/-! ### The document's tables: rows that grow -/
section
variable {D G : List Nat} {w0 w : World}
theorem _root_.Go.RX.AtD.growN {e : El} {s : Option Addr × Nat × Nat} {xs ys : List e.T} {b cy : Nat} {ry : List Value} {Ls L0 : List (Nat × List Value)} (H : AtD D G w0 w ((b, flat e ys ++ ry) :: (Ls ++ L0))) (hy : ys ≠ [])
    (hs : (s = (none, 0, 0) ∧ xs = [] ∧ Ls = []) ∨ ∃ bs c rest, s = (some ⟨bs, 0, none⟩, xs.length, c) ∧ Ls = [(bs, flat e xs ++ rest)] ∧ (flat e xs ++ rest).length = c * stride e ∧ xs.length ≤ c)
    (hp : plainE e = true) {t : TypeId} {size bytes : Nat} {z : Array Value} (hsz : size = stride e) (hz : z.size = stride e) (hb : (xs.length + ys.length) * bytes ≤ 140737488355328)
    {R : Option Addr × Nat × Nat → World → Prop} (k : ∀ bs c rest w', (flat e (xs ++ ys) ++ rest).length = c * stride e → (xs ++ ys).length ≤ c → AtD D G w0 w' ((bs, flat e (xs ++ ys) ++ rest) :: L0) → R (some ⟨bs, 0, none⟩, (xs ++ ys).length, c) w') :
    apR w t size bytes z s (some ⟨b, 0, none⟩, ys.length, cy) R := by
  subst hsz
  have tz : (trunc 0 w).heap.size = 0 := trunc_size (Nat.zero_le _)
  have ho : Own (trunc 0 w) w e s xs := by
    rcases hs with ⟨rfl, rfl, _⟩ | ⟨bs, c, rest, rfl, rfl, h1, h2⟩
    · exact Own.nil _ _ _
    · refine ⟨rfl, h2, .inr ⟨bs, _, rfl, by rw [tz]; exact Nat.zero_le _, H.get (i := 1) rfl, h1, ?_⟩⟩
      rw [List.take_append_of_le_length (by rw [flat_length]; exact Nat.le_refl _), List.take_of_length_le (by rw [flat_length]; exact Nat.le_refl _)]
  have hblk : Blk w b (flat e ys ++ ry) := H.get (i := 0) rfl
  refine own_append (ys := ys) ho (trunc_ext (Nat.zero_le _)) hp rfl ?_ hz hb fun s' w' ho' he' hf hsz hd => ?_
  · refine hblk.rdN (flat_length e ys) fun j hj => ?_
    rw [Nat.zero_add, List.getElem?_append_left (by rw [flat_length]; exact hj)]
  · obtain ⟨p, n, c⟩ := s'
    obtain ⟨h1, h2, h3⟩ := ho'
    simp only at h1 h2 h3 hd
    have hyl : 0 < ys.length := List.length_pos_iff.2 hy
    have hlen : (xs ++ ys).length = xs.length + ys.length := by simp
    rcases h3 with ⟨_, hx, _⟩ | ⟨bs, l, a1, _, a3, a4, a5⟩
    · simp at hx; exact absurd hx.2 hy
    · subst a1
      subst h1
      have el : l = flat e (xs ++ ys) ++ l.drop ((xs ++ ys).length * stride e) := by rw [← a5, List.take_append_drop]
      refine k bs c (l.drop ((xs ++ ys).length * stride e)) w' (by rw [← el]; exact a4) h2 ?_
      rw [← el]
      have hG' : ∃ G', Fr G' w w' ∧ (∀ y ∈ G', y ∈ Ls.map (·.1)) := by
        rcases hs with ⟨rfl, _, rfl⟩ | ⟨bo, co, ro, rfl, rfl, _, _⟩
        · exact ⟨[], ⟨he'.os, he'.tape, he'.output, hsz, fun y hy _ => hf y hy (fun a ha => by cases ha)⟩, fun y hy => by cases hy⟩
        · exact ⟨[bo], ⟨he'.os, he'.tape, he'.output, hsz, fun y hy hn => hf y hy (fun a ha => by cases ha; simpa using hn)⟩, fun y hy => by simpa using hy⟩
      obtain ⟨G', hfr, hGs⟩ := hG'
      have hnd := H.nd
      simp only [List.map_cons, List.map_append, List.nodup_cons, List.nodup_append, List.mem_append] at hnd
      have memS : ∀ y ∈ Ls.map (·.1), w0.heap.size ≤ y ∨ y ∈ G := fun y hy => by
        obtain ⟨u, hu, rfl⟩ := List.mem_map.1 hy
        exact H.own u (List.mem_cons_of_mem _ (List.mem_append_left _ hu))
      have hbs : bs ∈ Ls.map (·.1) ∨ w.heap.size ≤ bs := by
        rcases hd with ⟨a, e1, e2⟩ | ⟨a, e1, e2⟩ | e1
        · cases e1
          rcases hs with ⟨rfl, _, _⟩ | ⟨bo, co, ro, rfl, rfl, _, _⟩
          · cases e2
          · cases e2; exact .inl (by simp)
        · cases e1; exact .inr e2
        · rcases hs with ⟨rfl, rfl, _⟩ | ⟨bo, co, ro, rfl, rfl, _, _⟩
          · cases e1
          · have e3 := congrArg (fun z => z.2.1) e1
            simp at e3
            exact absurd e3 hy
      refine H.frame hfr (fun y hy => memS y (hGs y hy)) (fun r hr hy => ?_) (fun y hy => ?_) (fun y hy => ?_) ?_
      · obtain ⟨u, hu, e1⟩ := List.mem_map.1 (hGs r hy)
        exact AtD.blk_ne_obj (H.blk u (List.mem_cons_of_mem _ (List.mem_append_left _ hu))) (H.mks r hr).2 (fun _ _ _ hc => by cases hc) e1
      · rcases List.mem_cons.1 hy with rfl | hy
        · exact a3
        · refine hfr.blk (fun hm => ?_) (H.blk y (List.mem_cons_of_mem _ (List.mem_append_right _ hy)))
          exact hnd.2.2.2 y.1 (hGs _ hm) y.1 (List.mem_map.2 ⟨y, hy, rfl⟩) rfl
      · rcases List.mem_cons.1 hy with rfl | hy
        · rcases hbs with h | h
          · exact memS _ h
          · exact .inl (Nat.le_trans H.fr.size h)
        · exact H.own y (List.mem_cons_of_mem _ (List.mem_append_right _ hy))
      · refine List.nodup_cons.2 ⟨fun hm => ?_, hnd.2.2.1⟩
        rcases hbs with h | h
        · exact hnd.2.2.2 bs h bs hm rfl
        · obtain ⟨u, hu, e1⟩ := List.mem_map.1 hm
          have := (H.blk u (List.mem_cons_of_mem _ (List.mem_append_right _ hu))).lt
          simp only at e1 h
          omega
end
section
variable {Q : Sys} {D G : List Nat} {w0 w : World} {s : WD}
/-- A row of numbers grows by another one. -/
theorem SAt.growN {A Ls : List (Nat × List Value)} {b2 cy : Nat} {ry : List Value} {xs ys : List Int} {sl : Option Addr × Nat × Nat} (S : SAt Q D G w0 w s ((b2, flat eN ys ++ ry) :: (A ++ Ls))) (hs : PIn Ls sl xs) (hy : ys ≠ []) (hb : xs.length + ys.length ≤ 1000000) {t : TypeId}
    {R : Option Addr × Nat × Nat → World → Prop} (k : ∀ Ls' sl' w', PIn Ls' sl' (xs ++ ys) → SAt Q D G w0 w' s (A ++ Ls') → R sl' w') :
    apR w t 1 8 ⟨[.int .i64 0]⟩ sl (some ⟨b2, 0, none⟩, ys.length, cy) R := by
  obtain ⟨h1, h2, h3, h4, ca, la, H⟩ := S
  have H2 : AtD D G w0 w ((b2, flat eN ys ++ ry) :: (Ls ++ (Q.L ca la s A))) := by
    refine H.perm ?_
    have e : Q.L ca la s ((b2, flat eN ys ++ ry) :: (A ++ Ls)) = Q.L ca la s [] ++ ((b2, flat eN ys ++ ry) :: (A ++ Ls)) := rfl
    have e2 : Q.L ca la s A = Q.L ca la s [] ++ A := rfl
    rw [e, e2]
    refine List.Perm.trans ?_ (List.perm_middle).symm
    refine List.Perm.cons _ ?_
    rw [← List.append_assoc (Q.L ca la s []) A Ls]
    exact List.perm_append_comm
  refine AtD.growN (e := eN) H2 hy hs rfl rfl rfl (by omega) fun bs c rest w' q1 q2 H3 => k [(bs, flat eN (xs ++ ys) ++ rest)] (some ⟨bs, 0, none⟩, (xs ++ ys).length, c) w' (.inr ⟨bs, c, rest, rfl, rfl, q1, q2⟩) ⟨h1, h2, h3, h4, ca, la, H3.perm ?_⟩
  have e : Q.L ca la s (A ++ [(bs, flat eN (xs ++ ys) ++ rest)]) = Q.L ca la s A ++ [(bs, flat eN (xs ++ ys) ++ rest)] := rfl
  rw [e]
  exact List.perm_append_comm
theorem SAt.grow1 {A Ls : List (Nat × List Value)} {b2 : Nat} {x : Int} {xs : List Int} {sl : Option Addr × Nat × Nat} (S : SAt Q D G w0 w s ((b2, [.int .i64 x]) :: (A ++ Ls))) (hs : PIn Ls sl xs) (hb : xs.length ≤ 900000) {t : TypeId}
    {R : Option Addr × Nat × Nat → World → Prop} (k : ∀ Ls' sl' w', PIn Ls' sl' (xs ++ [x]) → SAt Q D G w0 w' s (A ++ Ls') → R sl' w') :
    apR w t 1 8 ⟨[.int .i64 0]⟩ sl (some ⟨b2, 0, none⟩, 1, 1) R :=
  SAt.growN (ys := [x]) (ry := []) (cy := 1) S hs (by simp) (by simp; omega) k
theorem PIn.rowN {Ls : List (Nat × List Value)} {sl : Option Addr × Nat × Nat} {xs : List Int} (h : PIn Ls sl xs) : RowIn eN Ls sl xs := by
  rcases h with ⟨rfl, rfl, rfl⟩ | ⟨bs, c, rest, rfl, rfl, _, _⟩
  · exact ⟨rfl, .inl ⟨rfl, rfl⟩⟩
  · exact ⟨rfl, .inr ⟨bs, rest, rfl, rfl⟩⟩
end
/-! ### The way of a page -/
theorem wayL_mem (ws : List Int) (pg : Int) : ∀ (l : Nat) (f : Int) (x : PT), x ∈ wayL ws pg l f → x.2.2.1 = atI x.1 pg x.2.1
  | 0, f, x, h => by
    rw [wayL, List.mem_singleton] at h
    subst h; rfl
  | l + 1, f, x, h => by
    rw [wayL] at h
    rcases List.mem_cons.1 h with rfl | h
    · rfl
    · split at h
      · exact wayL_mem ws pg l _ x h
      · cases h
theorem wayL_last (ws : List Int) (pg : Int) : ∀ (l : Nat) (f : Int), ((wayL ws pg l f).getLast (wayL_ne ws pg l f)).2.1 + (wayL ws pg l f).length = (l : Int) + 1
  | 0, f => rfl
  | l + 1, f => by
    by_cases h : tabP (entA ws (atI f pg ((l + 1 : Nat) : Int))) = true
    · have e : wayL ws pg (l + 1) f = (f, ((l + 1 : Nat) : Int), atI f pg ((l + 1 : Nat) : Int), ()) :: wayL ws pg l (entA ws (atI f pg ((l + 1 : Nat) : Int))).2.2.2.1 := by rw [wayL, if_pos h]
      have := wayL_last ws pg l (entA ws (atI f pg ((l + 1 : Nat) : Int))).2.2.2.1
      simp only [e]
      rw [List.getLast_cons (wayL_ne _ _ _ _), List.length_cons]
      omega
    · have e : wayL ws pg (l + 1) f = [(f, ((l + 1 : Nat) : Int), atI f pg ((l + 1 : Nat) : Int), ())] := by rw [wayL, if_neg h]
      simp only [e]
      rfl
theorem endX_lvl (ws : List Int) (r pg : Int) : (endX ws r pg).2.1 = 4 - (wayL ws pg 3 r).length := by
  have := wayL_last ws pg 3 r
  unfold endX
  rw [List.getLastD_eq_getLast?, List.getLast?_eq_some_getLast (wayL_ne ws pg 3 r)]
  show ((wayL ws pg 3 r).getLast _).2.1 = _
  omega
theorem endX_at (ws : List Int) (r pg : Int) : (endX ws r pg).2.2.1 = atI (endX ws r pg).1 pg (endX ws r pg).2.1 := wayL_mem ws pg 3 r _ (List.mem_of_getElem? (end_get ws r pg))
/-- All that lies on a page's way lies in memory. -/
def WayIn (ws : List Int) (pg r : Int) : Prop := ∀ x ∈ wayL ws pg 3 r, inM ws x.2.2.1 = true
theorem WayIn.last {ws : List Int} {pg r : Int} (h : WayIn ws pg r) : inM ws (endX ws r pg).2.2.1 = true := h _ (List.mem_of_getElem? (end_get ws r pg))
section
variable {Q : Sys} {D G : List Nat} {w0 w : World} {s : WD} {L0 : List (Nat × List Value)} {bt : Nat} {o r : Int} {gone : Bool}
namespace SAt
theorem rdW (S : SAt Q D G w0 w s L0) {a : Int} (h : inM s.1 a = true) : rdAt w (addP (some ⟨Q.bw, 0, none⟩) (a.toNat * 1)) (.one (.int .u64)) (ldV s.1 a) := by
  obtain ⟨h1, h2, h3, h4, ca, la, H⟩ := S
  have hi := inM_iff.1 h
  have hw := H.get (i := 1) rfl
  rw [addP_B]
  have e := elAt_rd hw (w_el (ws := s.1) (rest := Q.rw) (i := a.toNat) (by omega))
  unfold ldV
  rw [if_pos h]
  exact e
theorem rdL (S : SAt Q D G w0 w s L0) : rdAt w (addP (some ⟨Q.bm, 0, none⟩) 0) (.one .slice) (some ⟨Q.bw, 0, none⟩, s.1.length, Q.c) := by
  obtain ⟨ca, la, hm⟩ := S.mem
  rw [addP_B]; exact hm.rd1 rfl
theorem rdF (S : SAt Q D G w0 w s L0) : rdAt w (addP (some ⟨Q.bp, 0, none⟩) 0) (.one .slice) (some ⟨Q.bf, 0, none⟩, s.2.length, Q.cp) := by
  rw [addP_B]; exact S.pool.rd1 rfl
theorem rentry (S : SAt Q D G w0 w s L0) (k0 : Nat) (ht : L0[k0]? = some (bt, tcs Q o r gone)) (f pg lv : Int) (h : inM s.1 (atI f pg lv) = true) {K : ET → World → Prop} (k : ∀ w2, SAt Q D G w0 w2 s L0 → K (entA s.1 (atI f pg lv)) w2) :
    CaP Tryz.prog 79 (.el (.agg sEn)) [.pointer (some ⟨bt, 0, none⟩), .int .i64 f, .int .i64 pg, .int .i64 lv] w K := by
  refine S.go fun w1 S => rxFnR_ok (C := N2) (ann := fun _ => []) (Eq.mpr (yentry_vc _ f pg lv w1 K) ?_)
  have hi := inM_iff.1 h
  refine S.al fun b w2 S => ⟨rfl, rfl, S.ldA (k0 + 1) ht rfl ⟨rfl, rfl, LdP.of _ S.rdL ⟨trivial, ⟨rfl, hi.1, hi.2⟩, LdP.of _ (S.rdW h) ⟨?_, S.al fun b1 w4 S => S.stAll 0 rfl rfl rfl fun w5 S => S.ld 0 rfl rfl (S.stAll 1 rfl rfl rfl fun w6 S => S.en fun w7 S => S.ld 1 rfl rfl (k w7 S.tail.tail))⟩⟩⟩⟩
  have h2 := ld_rng S.okw (atI f pg lv)
  exact U_B' h2.1 h2.2
theorem rlay (S : SAt Q D G w0 w s L0) (k0 : Nat) (ht : L0[k0]? = some (bt, tcs Q o r gone)) (i : Int) (e : ET) {K : Unit → World → Prop} (c : ∀ w2, SAt Q D G w0 w2 (layS s i e) L0 → K () w2) :
    CaP Tryz.prog 77 (.tup []) [.pointer (some ⟨bt, 0, none⟩), .int .i64 i, .agg ⟨[.bool e.1, .int .i64 e.2.1, .bool e.2.2.1, .int .i64 e.2.2.2.1]⟩] w K := by
  refine S.go fun w1 S => rxFn_ok (C := N2) (ann := fun _ => []) (Eq.mpr (ylay_vc _ i e.1 e.2.1 e.2.2.1 e.2.2.2.1 w1 K) ?_)
  exact S.al fun b w2 S => S.ld 0 rfl rfl ⟨trivial, rfl, rfl, S.ldA (k0 + 1) ht rfl (S.rstore i _ (pk_rng _ _ _ _) fun w3 S => S.en fun w4 S => c w4 S.tail)⟩
theorem rroot (S : SAt Q D G w0 w s L0) (k0 : Nat) (ht : L0[k0]? = some (bt, tcs Q o r gone)) : QCalls Tryz.prog 18 [.pointer (some ⟨bt, 0, none⟩)] w (.int .i64 (rootI r gone)) := by
  refine QCalls.of (s := .el (.one (.int .i64))) fun w' h' => rxFn_ok (C := N2) (ann := fun _ => []) (Eq.mpr (yroot_vc _ w' _) ?_)
  have S := S.ext h'
  refine ⟨rfl, rfl, S.ldA k0 ht rfl ?_⟩
  cases gone with
  | true => exact brP_pos rfl fun w1 h1 => ⟨rfl, h1⟩
  | false => exact brP_neg rfl ⟨rfl, rfl, S.ldA k0 ht rfl fun w1 h1 => ⟨rfl, h1⟩⟩
/-- The frames on a page's way. -/
theorem rway (S : SAt Q D G w0 w s L0) (k0 : Nat) (ht : L0[k0]? = some (bt, tcs Q o r gone)) (pg : Int) (hin : WayIn s.1 pg r) {K : Option Addr × Nat × Nat → World → Prop} (k : ∀ x Ls w2, SAt Q D G w0 w2 s (L0 ++ Ls) → PIn Ls x ((wayL s.1 pg 3 r).map (·.1)) → K x w2) :
    CaP Tryz.prog 72 (.el (.one .slice)) [.pointer (some ⟨bt, 0, none⟩), .int .i64 pg] w K := by
  refine S.go fun w1 S => rxFn_ok (C := N2) (ann := yway_vc_ann) (Eq.mpr (yway_vc _ pg w1 K) ?_)
  have ht' : ∀ {Ls : List (Nat × List Value)}, (L0 ++ Ls)[k0]? = some (bt, tcs Q o r gone) := fun {Ls} => by
    rw [List.getElem?_append_left (List.getElem?_eq_some_iff.1 ht).1]; exact ht
  refine ⟨rfl, rfl, S.ldA k0 ht rfl (S.al fun b w2 S => ?_)⟩
  have S : SAt Q D G w0 w2 s (L0 ++ [(b, [.int .i64 r])]) := S.perm (List.perm_append_singleton _ _)
  refine ⟨fun n v w' => ∃ (pre : List PT) (f : Int) (Ls : List (Nat × List Value)), v.2.1 = (n : Int) ∧ n ≤ 3 ∧ wayL s.1 pg 3 r = pre ++ wayL s.1 pg n f ∧ PIn Ls v.1 (pre.map (·.1) ++ [f]) ∧ SAt Q D G w0 w' s (L0 ++ Ls), ⟨3, fun w3 h3 => ⟨[], r, _, rfl, Nat.le_refl _, rfl, .inr ⟨b, 1, [], rfl, rfl, rfl, Nat.le_refl _⟩, S.ext h3⟩⟩, ?_⟩
  clear S
  rintro n ⟨sl, v, u⟩ w3 ⟨pre, f, Ls, e, hn, hw, hP, S⟩
  dsimp only at e hP ⊢
  subst e
  have hlast : sl.2.1 = pre.length + 1 := by
    have := hP.rowN.1
    simpa using this
  have hpl : pre.length ≤ 4 := by
    have := wayL_len s.1 pg 3 r
    rw [hw, List.length_append] at this
    omega
  rcases n with _ | n
  · refine brP_neg (by simp) (S.en fun w4 S => k sl Ls w4 S ?_)
    rw [hw, List.map_append]
    exact hP
  · have hin2 : inM s.1 (atI f pg ((n + 1 : Nat) : Int)) = true := hin (f, ((n + 1 : Nat) : Int), atI f pg ((n + 1 : Nat) : Int), ()) (by
      rw [hw, wayL_cons]
      exact List.mem_append_right _ List.mem_cons_self)
    have esub : subI .i64 ((sl.2.1 : Nat) : Int) 1 = (pre.length : Int) := by rw [subI_i64 (by omega) (by omega)]; omega
    have hsl := (S.sl hP.rowN (fun y hy => List.mem_append_right _ hy)) pre.length f (by rw [List.getElem?_append_right (by simp)]; simp)
    rw [esub]
    refine brP_pos (by simp) ⟨⟨hsl.1, by omega, by omega⟩, LdP.of f hsl.2 (S.rentry k0 ht' f pg _ hin2 fun w4 S => S.al fun b1 w5 S => S.stAll 0 rfl rfl rfl fun w6 S => S.ld 0 rfl rfl ⟨trivial, brP_intro (fun c => S.en fun w7 S => k sl Ls w7 S.tail ?_) (fun c => ?_)⟩)⟩
    · have c : tabP (entA s.1 (atI f pg ((n + 1 : Nat) : Int))) = false := by
        have : (!tabP (entA s.1 (atI f pg ((n + 1 : Nat) : Int)))) = true := c
        simpa using this
      rw [hw, List.map_append, wayL, c, if_neg (by decide)]
      exact hP
    · have c : tabP (entA s.1 (atI f pg ((n + 1 : Nat) : Int))) = true := by
        have : (!tabP (entA s.1 (atI f pg ((n + 1 : Nat) : Int)))) = false := c
        simpa using this
      refine ⟨rfl, S.ldA 0 rfl rfl (S.al fun b2 w7 S => fun w8 h8 => ?_)⟩
      have S := (S.ext h8).sub (L1 := (b2, [.int .i64 (entA s.1 (atI f pg ((n + 1 : Nat) : Int))).2.2.2.1]) :: (L0 ++ Ls)) (.cons_cons _ (List.sublist_cons_self _ _))
      refine SAt.grow1 S hP (by simp; omega) fun Ls' sl' w9 hP' S => fun w10 h10 => ⟨n, by omega, pre ++ [(f, ((n + 1 : Nat) : Int), atI f pg ((n + 1 : Nat) : Int), ())], (entA s.1 (atI f pg ((n + 1 : Nat) : Int))).2.2.2.1, Ls', ?_, by omega, ?_, ?_, S.ext h10⟩
      · rw [subI_i64 (by omega) (by omega)]; omega
      · rw [hw, wayL, if_pos c]; simp
      · simpa using hP'
/-- The last entry on a page's way, and its level. -/
theorem rlast (S : SAt Q D G w0 w s L0) (k0 : Nat) (ht : L0[k0]? = some (bt, tcs Q o r gone)) (pg : Int) (hin : WayIn s.1 pg r) {K : ET × Int × Unit → World → Prop} (k : ∀ w2, SAt Q D G w0 w2 s L0 → K (endP s.1 r pg, (endX s.1 r pg).2.1, ()) w2) :
    CaP Tryz.prog 48 (.tup [.agg sEn, .one (.int .i64)]) [.pointer (some ⟨bt, 0, none⟩), .int .i64 pg] w K := by
  refine S.go fun w1 S => rxFnR_ok (C := N2) (ann := fun _ => []) (Eq.mpr (ylast_vc _ pg w1 K) ?_)
  refine S.al fun b w2 S => S.rway (k0 + 1) ht pg hin fun x Ls w3 S hP => ?_
  have hlen : (wayL s.1 pg 3 r).length ≤ 4 := wayL_len s.1 pg 3 r
  have hpos : 0 < (wayL s.1 pg 3 r).length := List.length_pos_iff.2 (wayL_ne s.1 pg 3 r)
  have hl : x.2.1 = (wayL s.1 pg 3 r).length := by
    have := hP.rowN.1
    simpa using this
  have e1 : subI .i64 ((x.2.1 : Nat) : Int) 1 = (((wayL s.1 pg 3 r).length - 1 : Nat) : Int) := by rw [subI_i64 (by omega) (by omega)]; omega
  have e2 : subI .i64 4 ((x.2.1 : Nat) : Int) = (endX s.1 r pg).2.1 := by rw [subI_i64 (by omega) (by omega), endX_lvl, hl]
  have hsl := (S.sl hP.rowN (fun y hy => List.mem_append_right _ hy)) ((wayL s.1 pg 3 r).length - 1) (endX s.1 r pg).1 (by rw [List.getElem?_map, end_get]; rfl)
  have ht' : ((b, [Value.bool false, .int .i64 0, .bool false, .int .i64 0]) :: L0 ++ Ls)[k0 + 1]? = some (bt, tcs Q o r gone) := by
    show (L0 ++ Ls)[k0]? = _
    rw [List.getElem?_append_left (List.getElem?_eq_some_iff.1 ht).1]; exact ht
  have hlst := hin.last
  rw [endX_at] at hlst
  rw [e1, e2]
  refine ⟨⟨hsl.1, by omega, by omega⟩, LdP.of (endX s.1 r pg).1 hsl.2 (S.rentry (k0 + 1) ht' _ pg _ hlst fun w4 S => S.stAll 0 rfl rfl rfl fun w5 S => S.en fun w6 S => S.ld 0 rfl rfl ?_)⟩
  have ee : endP s.1 r pg = entA s.1 (atI (endX s.1 r pg).1 pg (endX s.1 r pg).2.1) := by unfold endP; rw [endX_at]
  rw [ee] at k
  exact k w6 (S.tail.sub (List.sublist_append_left _ _))
theorem rquery (S : SAt Q D G w0 w s L0) (k0 : Nat) (ht : L0[k0]? = some (bt, tcs Q o r gone)) (pg : Int) (hin : gone = false → 0 ≤ pg ∧ pg < 65536 → WayIn s.1 pg r) {K : Int × Int × Int × Unit → World → Prop} (k : ∀ w2, SAt Q D G w0 w2 s L0 → K (qryV s r gone pg) w2) :
    CaP Tryz.prog 13 (.tup [.one (.int .i64), .one (.int .i64), .one (.int .i64)]) [.pointer (some ⟨bt, 0, none⟩), .int .i64 pg] w K := by
  refine S.go fun w1 S => rxFn_ok (C := N2) (ann := fun _ => []) (Eq.mpr (yquery_vc _ pg w1 K) ?_)
  refine ⟨rfl, rfl, S.ldA k0 ht rfl ?_⟩
  unfold qryV at k
  cases gone with
  | true =>
    rw [if_pos rfl] at k
    exact brP_pos rfl (S.en fun w2 S => k w2 S)
  | false =>
    rw [if_neg (by decide)] at k
    refine brP_neg rfl (brP_intro (fun c => S.en fun w2 S => ?_) (fun c => ?_))
    · simp only [Bool.or_eq_true, decide_eq_true_eq] at c
      rw [if_pos (by omega)] at k
      exact k w2 S
    · simp only [Bool.or_eq_false_iff, decide_eq_false_iff_not] at c
      rw [if_neg (by omega)] at k
      have hb := entA_rng s.1 (endX s.1 r pg).2.2.1
      have er : remI pg 16 = pg % 16 := by unfold remI; exact Int.tmod_eq_emod_of_nonneg (by omega)
      refine S.rlast k0 ht pg (hin rfl (by omega)) fun w2 S => S.al fun b w3 S => S.stAll 0 rfl rfl rfl fun w4 S => ⟨rfl, S.ldA 0 rfl rfl (brP_intro (fun c2 => S.en fun w5 S => ?_) (fun c2 => brP_intro (fun c3 => ⟨rfl, S.ldA 0 rfl rfl ⟨rfl, S.ldA 0 rfl rfl (S.en fun w5 S => ?_)⟩⟩) (fun c3 => ⟨rfl, S.ldA 0 rfl rfl ⟨rfl, S.ldA 0 rfl rfl (S.en fun w5 S => ?_)⟩⟩)))⟩
      · have c2 : (endP s.1 r pg).1 = false := by simpa using c2
        rw [c2, if_neg (by decide)] at k
        exact k w5 S.tail
      · have c2 : (endP s.1 r pg).1 = true := by simpa using c2
        have c3 : (endX s.1 r pg).2.1 = 1 := by simpa using c3
        rw [c2, if_pos rfl] at k
        have e1 : addI .i64 (endP s.1 r pg).2.2.2.1 (remI pg 16) = frmP pg (endX s.1 r pg) (endP s.1 r pg) := by
          unfold frmP
          rw [if_pos c3, er]
          exact addI_i64 (by unfold endP; omega) (by unfold endP; omega)
        dsimp only
        rw [e1]
        exact k w5 S.tail
      · have c2 : (endP s.1 r pg).1 = true := by simpa using c2
        have c3 : ¬ (endX s.1 r pg).2.1 = 1 := by simpa using c3
        rw [c2, if_pos rfl] at k
        have e1 : (endP s.1 r pg).2.2.2.1 = frmP pg (endX s.1 r pg) (endP s.1 r pg) := by unfold frmP; rw [if_neg c3]
        dsimp only
        rw [e1]
        exact k w5 S.tail
end SAt
end
end Go.Proofs.YtkldededdgpmbaaGreat
namespace Go.Proofs.YtkldededdgpmbaaGreat
set_option linter.unusedSimpArgs false
set_option linter.unusedVariables false
set_option maxRecDepth 100000
open Go.RX D
/-! ### The document's put, Map, Large, split -/
namespace Inv
variable {g : Gh} {s : WD}
theorem way_in' (I : Inv g s) {o p : Int} (hp : 0 ≤ p ∧ p < 65536) : ∀ (l : Nat) {f : Int}, g f = some (o, l, px (l + 1) p) → ∀ x ∈ wayL s.1 p l f, inM s.1 x.2.2.1 = true := by
  intro l
  induction l with
  | zero =>
    intro f hf x hx
    rw [wayL, List.mem_singleton] at hx
    subst hx
    obtain ⟨b1, b2, b3⟩ := I.rng hf
    have hi := px_i p 0
    have e := at_px ⟨b1, b2⟩ hp (l := 0) (by omega)
    show inM s.1 (atI f p ((0 : Nat) : Int)) = true
    rw [e]; exact inM_rng (by omega) (by omega)
  | succ l ih =>
    intro f hf x hx
    obtain ⟨b1, b2, b3⟩ := I.rng hf
    have hl := (I.kd hf).2.2.2.2.2
    have hi := px_i p (l + 1)
    have e := at_px ⟨b1, b2⟩ hp (l := l + 1) (by omega)
    rw [wayL] at hx
    rcases List.mem_cons.1 hx with rfl | hx
    · show inM s.1 (atI f p ((l + 1 : Nat) : Int)) = true
      rw [e]; exact inM_rng (by omega) (by omega)
    · split at hx
      · rename_i ht
        rw [e] at ht hx
        obtain ⟨m, hm, h2⟩ := I.tab hf hi.1 hi.2 ht
        have : m = l := by omega
        subst this
        rw [← px_step] at h2
        exact ih h2 x hx
      · cases hx
theorem way_in (I : Inv g s) {o r p : Int} (hr : g r = some (o, 3, 0)) (hp : 0 ≤ p ∧ p < 65536) : WayIn s.1 p r := I.way_in' hp 3 (by rw [px4 hp]; exact hr)
/-- Words elsewhere do not matter. -/
theorem way_congr (I : Inv g s) {ws : List Int} (h : ∀ {f o l x k}, g f = some (o, l, x) → 0 ≤ k → k < 16 → entA ws (16 * f + k) = entA s.1 (16 * f + k)) {o p : Int} (hp : 0 ≤ p ∧ p < 65536) : ∀ (l : Nat) {f : Int}, g f = some (o, l, px (l + 1) p) → wayL ws p l f = wayL s.1 p l f := by
  intro l
  induction l with
  | zero => intro f _; rfl
  | succ l ih =>
    intro f hf
    obtain ⟨b1, b2, b3⟩ := I.rng hf
    have hl := (I.kd hf).2.2.2.2.2
    have hi := px_i p (l + 1)
    have e := at_px ⟨b1, b2⟩ hp (l := l + 1) (by omega)
    rw [wayL, wayL, e, h hf hi.1 hi.2]
    congr 1
    split
    · rename_i ht
      obtain ⟨m, hm, h2⟩ := I.tab hf hi.1 hi.2 ht
      have : m = l := by omega
      subst this
      rw [← px_step] at h2
      exact ih h2
    · rfl
/-- One more table, on a page's way. -/
theorem down1 (I : Inv g s) {o r p f : Int} {m : Nat} (hr : g r = some (o, 3, 0)) (he : EndAt g s o p f (m + 1)) (hz : (entA s.1 (16 * f + px (m + 1) p % 16)).1 = false) (hc : 0 < cntL s.2 0) :
    tkE s o = 0 ∧ (0 ≤ tkF s o ∧ tkF s o < 4096) ∧ ∃ g', Inv g' (layS (tkS s o fun _ => 0) (16 * f + px (m + 1) p % 16) (leadP (tkF s o))) ∧ g' r = some (o, 3, 0) ∧ EndAt g' (layS (tkS s o fun _ => 0) (16 * f + px (m + 1) p % 16) (leadP (tkF s o))) o p (tkF s o) m ∧
      (entA (layS (tkS s o fun _ => 0) (16 * f + px (m + 1) p % 16) (leadP (tkF s o))).1 (16 * tkF s o + px m p % 16)).1 = false ∧ cntL (layS (tkS s o fun _ => 0) (16 * f + px (m + 1) p % 16) (leadP (tkF s o))).2 0 + 1 = cntL s.2 0 := by
  have hi := px_i p (m + 1)
  obtain ⟨q0, q1, q2, q3, q4, q5, q6, q7, q8, q9⟩ := I.grow_end (m := m) he.1 hi.1 hi.2 he.2 hc (fun _ => 0) (fun k _ _ => by
    rw [entV0]; exact ⟨tab0, leaf0 _, fun _ => rfl⟩) (fun p' _ hp' => by
    rw [entV0, res0 _ _ rfl, res0]
    exact hz)
  obtain ⟨e1, e2⟩ := q7 p he rfl
  have hcnt := cnt_set (d' := (3, o, 0, 0, ())) q6 0
  refine ⟨q0, ⟨q8, q9⟩, _, q1, q2.to hr, e1, by rw [e2, entV0]; rfl, ?_⟩
  rw [q5]
  simpa [zD] using hcnt
end Inv
section
variable {Q : Sys} {D G : List Nat} {w0 w : World} {s : WD} {L0 : List (Nat × List Value)} {bt : Nat} {o r : Int} {gone : Bool}
namespace SAt
theorem app_get {L Ls : List (Nat × List Value)} {k : Nat} {x : Nat × List Value} (h : L[k]? = some x) : (L ++ Ls)[k]? = some x := by
  rw [List.getElem?_append_left (List.getElem?_eq_some_iff.1 h).1]; exact h
theorem rput (S : SAt Q D G w0 w s L0) (k0 : Nat) (ht : L0[k0]? = some (bt, tcs Q o r gone)) {g : Gh} (hI : gone = false → Inv g s ∧ g r = some (o, 3, 0)) (pg : Int) (lv : Nat) (hlv : lv ≤ 1) (e : ET) {K : Int → World → Prop}
    (k1 : gone = true → ∀ w2, SAt Q D G w0 w2 s L0 → K 6 w2)
    (k2 : gone = false → (pg < 0 ∨ pg ≥ 65536 ∨ e.2.2.2.1 < 0 ∨ e.2.2.2.1 ≥ 4096) → ∀ w2, SAt Q D G w0 w2 s L0 → K 2 w2)
    (k3 : gone = false → ¬ (pg < 0 ∨ pg ≥ 65536 ∨ e.2.2.2.1 < 0 ∨ e.2.2.2.1 ≥ 4096) → (e.2.1 < 1 ∨ e.2.1 > 7) → ∀ w2, SAt Q D G w0 w2 s L0 → K 7 w2)
    (k4 : gone = false → ¬ (pg < 0 ∨ pg ≥ 65536 ∨ e.2.2.2.1 < 0 ∨ e.2.2.2.1 ≥ 4096) → ¬ (e.2.1 < 1 ∨ e.2.1 > 7) → (e.2.2.1 = true ∧ algE pg e.2.2.2.1 = true) → ∀ w2, SAt Q D G w0 w2 s L0 → K 8 w2)
    (k5 : gone = false → ¬ (pg < 0 ∨ pg ≥ 65536 ∨ e.2.2.2.1 < 0 ∨ e.2.2.2.1 ≥ 4096) → ¬ (e.2.1 < 1 ∨ e.2.1 > 7) → ¬ (e.2.2.1 = true ∧ algE pg e.2.2.2.1 = true) → ∀ w2, SAt Q D G w0 w2 (putS s o r pg lv e) L0 → K (putE s r pg lv) w2) :
    CaP Tryz.prog 70 (.el (.one (.int .i64))) [.pointer (some ⟨bt, 0, none⟩), .int .i64 pg, .int .i64 (lv : Int), .agg ⟨[.bool e.1, .int .i64 e.2.1, .bool e.2.2.1, .int .i64 e.2.2.2.1]⟩] w K := by
  refine S.go fun w1 S => rxFn_ok (C := N2) (ann := yput_vc_ann) (Eq.mpr (yput_vc _ pg (lv : Int) e.1 e.2.1 e.2.2.1 e.2.2.2.1 w1 K) ?_)
  refine S.al fun b w2 S => ⟨rfl, rfl, S.ldA (k0 + 1) ht rfl ?_⟩
  cases gone with
  | true => exact brP_pos rfl (S.en fun w3 S => k1 rfl w3 S.tail)
  | false =>
  obtain ⟨I, hr⟩ := hI rfl
  refine brP_neg rfl ⟨fun _ => rfl, S.ldA 0 rfl rfl ⟨fun _ => rfl, S.ldA 0 rfl rfl (brP_intro (fun c => S.en fun w3 S => k2 rfl ?_ w3 S.tail) (fun c => ?_))⟩⟩
  · simp only [Bool.or_eq_true, decide_eq_true_eq] at c; omega
  have c1 : ¬ (pg < 0 ∨ pg ≥ 65536 ∨ e.2.2.2.1 < 0 ∨ e.2.2.2.1 ≥ 4096) := by
    simp only [Bool.or_eq_false_iff, decide_eq_false_iff_not] at c; omega
  clear c
  refine ⟨rfl, S.ldA 0 rfl rfl ⟨fun _ => rfl, S.ldA 0 rfl rfl (brP_intro (fun c => S.en fun w3 S => k3 rfl c1 ?_ w3 S.tail) (fun c => ?_))⟩⟩
  · simpa using c
  have c2 : ¬ (e.2.1 < 1 ∨ e.2.1 > 7) := by simpa using c
  clear c
  have er : remI pg 16 = pg % 16 := by unfold remI; exact Int.tmod_eq_emod_of_nonneg (by omega)
  have er2 : remI e.2.2.2.1 16 = e.2.2.2.1 % 16 := by unfold remI; exact Int.tmod_eq_emod_of_nonneg (by omega)
  have ea : (remI pg 16 != 0 || remI e.2.2.2.1 16 != 0) = algE pg e.2.2.2.1 := by
    rw [er, er2]
    unfold algE
    rw [Bool.eq_iff_iff]
    simp
    omega
  refine ⟨rfl, S.ldA 0 rfl rfl ⟨fun _ => rfl, S.ldA 0 rfl rfl ?_⟩⟩
  rw [ea]
  refine brP_intro (fun c => S.en fun w3 S => k4 rfl c1 c2 (by simpa using c) w3 S.tail) (fun c => ?_)
  have c3 : ¬ (e.2.2.1 = true ∧ algE pg e.2.2.2.1 = true) := by simpa using c
  clear c
  have hp : 0 ≤ pg ∧ pg < 65536 := by omega
  replace k5 := k5 rfl c1 c2 c3
  obtain ⟨f, j, hj, he⟩ := I.end_at hr hp
  obtain ⟨eX, eP⟩ := I.endX_of hr hp he
  have hput : putE s r pg (lv : Int) = if ((entA s.1 (16 * f + px j pg % 16)).1 || decide ((j : Int) < (lv : Int))) = true then 5 else if (cntL s.2 0 : Int) < (j : Int) - (lv : Int) then 12 else 0 := by
    unfold putE
    rw [eX, eP]
  refine S.rlast (k0 + 1) ht pg (I.way_in hr hp) fun w3 S => S.al fun b1 w4 S => S.stAll 0 rfl rfl rfl fun w5 S => ⟨rfl, S.ldA 0 rfl rfl ?_⟩
  rw [eX, eP]
  dsimp only
  by_cases d1 : ((entA s.1 (16 * f + px j pg % 16)).1 || decide ((j : Int) < (lv : Int))) = true
  · have e1 : putE s r pg (lv : Int) = 5 := by rw [hput, if_pos d1]
    rw [e1, put_err (by rw [e1]; decide)] at k5
    exact brP_pos d1 (S.en fun w6 S => k5 w6 S.tail.tail)
  have d1' := d1
  simp only [Bool.or_eq_true, decide_eq_true_eq, not_or, Bool.not_eq_true] at d1'
  refine brP_neg (by simpa using d1) ⟨rfl, rfl, S.ldA (k0 + 2) ht rfl ⟨_, S.rcnt 0, ?_⟩⟩
  have esub : subI .i64 (j : Int) (lv : Int) = (j : Int) - (lv : Int) := subI_i64 (by omega) (by omega)
  rw [esub]
  by_cases d2 : (cntL s.2 0 : Int) < (j : Int) - (lv : Int)
  · have e1 : putE s r pg (lv : Int) = 12 := by rw [hput, if_neg d1, if_pos d2]
    rw [e1, put_err (by rw [e1]; decide)] at k5
    exact brP_pos (by simpa using d2) (S.en fun w6 S => k5 w6 S.tail.tail)
  have e1 : putE s r pg (lv : Int) = 0 := by rw [hput, if_neg d1, if_neg d2]
  obtain ⟨z, hz⟩ : ∃ z, z = downS o pg (j - lv) (s, (f, (j : Int), 16 * f + px j pg % 16, ())) := ⟨_, rfl⟩
  have hS : putS s o r pg (lv : Int) e = layS z.1 z.2.2.2.1 e := by
    unfold putS
    rw [if_pos e1, eX]
    have en : ((j : Int) - (lv : Int)).toNat = j - lv := by omega
    dsimp only
    rw [en, ← hz]
  rw [e1, hS] at k5
  refine brP_neg (by simpa using d2) ⟨fun n v w' => ∃ (g : Gh) (s' : WD) (f : Int) (j : Nat) (c : List Value), v.1 = (j : Int) ∧ n + lv = j ∧ j ≤ 3 ∧ Inv g s' ∧ g r = some (o, 3, 0) ∧ EndAt g s' o pg f j ∧ (entA s'.1 (16 * f + px j pg % 16)).1 = false ∧ n ≤ cntL s'.2 0 ∧
      downS o pg n (s', (f, (j : Int), 16 * f + px j pg % 16, ())) = z ∧ SAt Q D G w0 w' s' ((b1, c) :: (b, [.bool e.1, .int .i64 e.2.1, .bool e.2.2.1, .int .i64 e.2.2.2.1]) :: L0),
    ⟨j - lv, fun w6 h6 => ⟨g, s, f, j, _, rfl, by omega, hj, I, hr, he, d1'.1, by omega, hz.symm, S.ext h6⟩⟩, ?_⟩
  clear S eX eP hput hS I hr he hj esub d1 d1' d2 hz e1
  rintro n ⟨v, u⟩ w6 ⟨g, s', f, j, c, e2, hn, hj, I, hr, he, hz0, hc, hd, S⟩
  have e2 : v = (j : Int) := e2
  subst e2
  have hfr := I.rng he.1
  obtain ⟨eX, eP⟩ := I.endX_of hr hp he
  have eat : atI f pg (j : Int) = 16 * f + px j pg % 16 := at_px ⟨hfr.1, hfr.2.1⟩ hp hj
  have hlen : (wayL s'.1 pg 3 r).length ≤ 4 := wayL_len s'.1 pg 3 r
  have hpos : 0 < (wayL s'.1 pg 3 r).length := List.length_pos_iff.2 (wayL_ne s'.1 pg 3 r)
  dsimp only
  rcases n with _ | n
  · -- the entry itself
    obtain rfl : j = lv := by omega
    refine brP_neg (by simp) (S.rway (k0 + 2) ht pg (I.way_in hr hp) fun x Ls w7 S hP => ?_)
    have hl : x.2.1 = (wayL s'.1 pg 3 r).length := by
      have := hP.rowN.1
      simpa using this
    have e1 : subI .i64 ((x.2.1 : Nat) : Int) 1 = (((wayL s'.1 pg 3 r).length - 1 : Nat) : Int) := by rw [subI_i64 (by omega) (by omega)]; omega
    have hsl := (S.sl hP.rowN (fun y hy => List.mem_append_right _ hy)) ((wayL s'.1 pg 3 r).length - 1) f (by rw [List.getElem?_map, end_get, eX]; rfl)
    rw [e1]
    refine ⟨⟨hsl.1, by omega, by omega⟩, LdP.of f hsl.2 ⟨trivial, S.ld 1 rfl rfl ?_⟩⟩
    rw [eat]
    refine S.rlay (k0 + 2) (app_get ht) _ e fun w8 S => S.en fun w9 S => k5 w9 ?_
    have hd : (s', (f, (j : Int), 16 * f + px j pg % 16, ())) = z := hd
    rw [← hd]
    exact (S.sub (List.sublist_append_left _ _)).tail.tail
  · -- a table
    obtain ⟨m, rfl⟩ : ∃ m, j = m + 1 := ⟨j - 1, by omega⟩
    obtain ⟨t0, t1, g', I', hr', he', hz', hc'⟩ := I.down1 hr he hz0 (by omega)
    refine brP_pos (by simp; omega) (S.rway (k0 + 2) ht pg (I.way_in hr hp) fun x Ls w7 S hP => ?_)
    have hl : x.2.1 = (wayL s'.1 pg 3 r).length := by
      have := hP.rowN.1
      simpa using this
    have e1 : subI .i64 ((x.2.1 : Nat) : Int) 1 = (((wayL s'.1 pg 3 r).length - 1 : Nat) : Int) := by rw [subI_i64 (by omega) (by omega)]; omega
    have ht2 : ((b1, c) :: (b, [Value.bool e.1, .int .i64 e.2.1, .bool e.2.2.1, .int .i64 e.2.2.2.1]) :: L0 ++ Ls)[k0 + 2]? = some (bt, tcs Q o r false) := app_get (k := k0 + 2) (L := (b1, c) :: (b, [Value.bool e.1, .int .i64 e.2.1, .bool e.2.2.1, .int .i64 e.2.2.2.1]) :: L0) ht
    refine ⟨rfl, rfl, S.ldA (k0 + 2) ht2 rfl ⟨rfl, rfl, S.ldA (k0 + 2) ht2 rfl (S.rtake 3 o fun w8 S => S.rzero (k0 + 2) ht2 _ ⟨t1.1, Int.le_of_lt t1.2⟩ fun w9 S => ?_)⟩⟩
    have S : SAt Q D G w0 w9 (tkS s' o fun _ => 0) ((b1, c) :: (b, [Value.bool e.1, .int .i64 e.2.1, .bool e.2.2.1, .int .i64 e.2.2.2.1]) :: L0 ++ Ls) := by
      unfold tkS
      rw [if_pos t0]
      exact S
    have hsl := (S.sl hP.rowN (fun y hy => List.mem_append_right _ hy)) ((wayL s'.1 pg 3 r).length - 1) f (by rw [List.getElem?_map, end_get, eX]; rfl)
    rw [e1]
    refine ⟨⟨hsl.1, by omega, by omega⟩, LdP.of f hsl.2 ⟨trivial, ?_⟩⟩
    rw [eat]
    refine S.rlay (k0 + 2) ht2 _ (leadP (tkF s' o)) fun w10 S => fun w11 h11 => ⟨n, by omega, g', _, tkF s' o, m, c, ?_, by omega, by omega, I', hr', he', hz', by omega, ?_, (S.sub (List.sublist_append_left _ _)).ext h11⟩
    · rw [subI_i64 (by omega) (by omega)]; omega
    · rw [← hd]
      show downS o pg n _ = downS o pg n (layS (tkS s' o fun _ => 0) (16 * f + px (m + 1) pg % 16) (leadP (tkF s' o)), (tkF s' o, ((m + 1 : Nat) : Int) - 1, atI (tkF s' o) pg (((m + 1 : Nat) : Int) - 1), ()))
      have el : ((m + 1 : Nat) : Int) - 1 = (m : Int) := by omega
      rw [el, at_px t1 hp (by omega)]
theorem rmap (S : SAt Q D G w0 w s L0) (k0 : Nat) (ht : L0[k0]? = some (bt, tcs Q o r gone)) {g : Gh} (hI : gone = false → Inv g s ∧ g r = some (o, 3, 0)) (pg f rt : Int) {K : Int → World → Prop} (k : ∀ w2, SAt Q D G w0 w2 (mapS s o r gone pg f rt) L0 → K (mapE s r gone pg f rt) w2) :
    CaP Tryz.prog 40 (.el (.one (.int .i64))) [.pointer (some ⟨bt, 0, none⟩), .int .i64 pg, .int .i64 f, .int .i64 rt] w K := by
  refine S.go fun w1 S => rxFn_ok (C := N2) (ann := fun _ => []) (Eq.mpr (ymap_vc _ pg f rt w1 K) ?_)
  unfold mapS mapE at k
  refine S.rput k0 ht hI pg 0 (by decide) (true, rt, false, f, ()) (fun h w2 S => S.en fun w3 S => ?_) (fun h c w2 S => S.en fun w3 S => ?_) (fun h c1 c w2 S => S.en fun w3 S => ?_) (fun h c1 c2 c w2 S => absurd (show false = true from c.1) (by decide)) (fun h c1 c2 c w2 S => S.en fun w3 S => ?_)
  · subst h
    rw [if_pos rfl, if_pos rfl] at k; exact k w3 S
  · subst h
    have hff : ¬ (false = true) := by decide
    rw [if_neg hff, if_neg hff] at k
    have e : rgtE pg f rt = 2 := if_pos c
    rw [e, if_neg (by decide), if_neg (by decide)] at k
    exact k w3 S
  · subst h
    have hff : ¬ (false = true) := by decide
    rw [if_neg hff, if_neg hff] at k
    have e : rgtE pg f rt = 7 := by unfold rgtE; rw [if_neg c1, if_pos c]
    rw [e, if_neg (by decide), if_neg (by decide)] at k
    exact k w3 S
  · subst h
    have hff : ¬ (false = true) := by decide
    rw [if_neg hff, if_neg hff] at k
    have e : rgtE pg f rt = 0 := by unfold rgtE; rw [if_neg c1, if_neg c2]
    rw [e, if_pos rfl, if_pos rfl] at k
    exact k w3 S
theorem rlarge (S : SAt Q D G w0 w s L0) (k0 : Nat) (ht : L0[k0]? = some (bt, tcs Q o r gone)) {g : Gh} (hI : gone = false → Inv g s ∧ g r = some (o, 3, 0)) (pg f rt : Int) {K : Int → World → Prop} (k : ∀ w2, SAt Q D G w0 w2 (lrgS s o r gone pg f rt) L0 → K (lrgE s r gone pg f rt) w2) :
    CaP Tryz.prog 41 (.el (.one (.int .i64))) [.pointer (some ⟨bt, 0, none⟩), .int .i64 pg, .int .i64 f, .int .i64 rt] w K := by
  refine S.go fun w1 S => rxFn_ok (C := N2) (ann := fun _ => []) (Eq.mpr (ylarge_vc _ pg f rt w1 K) ?_)
  unfold lrgS lrgE at k
  refine S.rput k0 ht hI pg 1 (by decide) (true, rt, true, f, ()) (fun h w2 S => S.en fun w3 S => ?_) (fun h c w2 S => S.en fun w3 S => ?_) (fun h c1 c w2 S => S.en fun w3 S => ?_) (fun h c1 c2 c w2 S => S.en fun w3 S => ?_) (fun h c1 c2 c w2 S => S.en fun w3 S => ?_)
  · subst h
    rw [if_pos rfl, if_pos rfl] at k; exact k w3 S
  · subst h
    have hff : ¬ (false = true) := by decide
    rw [if_neg hff, if_neg hff] at k
    have e : rgtE pg f rt = 2 := if_pos c
    rw [e, if_neg (by decide), if_neg (by decide)] at k
    exact k w3 S
  · subst h
    have hff : ¬ (false = true) := by decide
    rw [if_neg hff, if_neg hff] at k
    have e : rgtE pg f rt = 7 := by unfold rgtE; rw [if_neg c1, if_pos c]
    rw [e, if_neg (by decide), if_neg (by decide)] at k
    exact k w3 S
  · subst h
    have hff : ¬ (false = true) := by decide
    rw [if_neg hff, if_neg hff] at k
    have e : rgtE pg f rt = 0 := by unfold rgtE; rw [if_neg c1, if_neg c2]
    rw [e, if_pos rfl, if_pos rfl, if_pos c.2, if_pos c.2] at k
    exact k w3 S
  · subst h
    have hff : ¬ (false = true) := by decide
    rw [if_neg hff, if_neg hff] at k
    have e : rgtE pg f rt = 0 := by unfold rgtE; rw [if_neg c1, if_neg c2]
    have c : ¬ algE pg f = true := fun hh => c ⟨rfl, hh⟩
    rw [e, if_pos rfl, if_pos rfl, if_neg c, if_neg c] at k
    exact k w3 S
/-- A large entry is split. -/
theorem rsplit (S : SAt Q D G w0 w s L0) (k0 : Nat) (ht : L0[k0]? = some (bt, tcs Q o r false)) {g : Gh} (I : Inv g s) (hr : g r = some (o, 3, 0)) {pg : Int} (hp : 0 ≤ pg ∧ pg < 65536) (hq : (qryV s r false pg).2.2.1 = 0) {K : Int → World → Prop} (k : ∀ w2, SAt Q D G w0 w2 (splS s o r pg) L0 → K (splE s o r pg) w2) :
    CaP Tryz.prog 71 (.el (.one (.int .i64))) [.pointer (some ⟨bt, 0, none⟩), .int .i64 pg] w K := by
  refine S.go fun w1 S => rxFn_ok (C := N2) (ann := ysplit_vc_ann) (Eq.mpr (ysplit_vc _ pg w1 K) ?_)
  obtain ⟨f, j, hj, he⟩ := I.end_at hr hp
  obtain ⟨eX, eP⟩ := I.endX_of hr hp he
  rw [I.qry_of hr hp he] at hq
  have hpr := resE_ok hq
  have hi := px_i pg j
  have hfr := I.rng he.1
  have hj1 : j ≤ 1 := by
    rcases I.leaf he.1 hi.1 hi.2 hpr he.2 with h | h <;> omega
  unfold splS splE at k
  rw [eX, eP] at k
  refine S.rlast k0 ht pg (I.way_in hr hp) fun w2 S => S.al fun b w3 S => S.stAll 0 rfl rfl rfl fun w4 S => ?_
  rw [eX, eP]
  dsimp only
  rcases j with _ | j
  · rw [if_pos (by rfl), if_pos (by rfl)] at k
    exact brP_pos rfl (S.en fun w5 S => k w5 S.tail)
  obtain rfl : j = 0 := by omega
  have hn1 : ¬ (((0 + 1 : Nat) : Int)) = 0 := by decide
  rw [if_neg hn1, if_neg hn1] at k
  refine brP_neg rfl ⟨rfl, rfl, S.ldA (k0 + 1) ht rfl ⟨rfl, rfl, S.ldA (k0 + 1) ht rfl (S.rtake 3 o fun w5 S => ?_)⟩⟩
  by_cases hE : tkE s o = 0
  · rw [if_pos hE, hE] at k
    have hE' : takeE s.2 3 o = 0 := hE
    have hk := I.kd he.1
    have hc : 0 < cntL s.2 0 := by
      rcases Nat.eq_zero_or_pos (cntL s.2 0) with h | h
      · exact absurd hE (tkE_none h (by omega))
      · exact h
    obtain ⟨n, hn1, hn2, e1, e2, e3⟩ := take_free hc I.fz ⟨hk.2.2.2.1, hk.2.2.2.2.1⟩
    have hlen := I.len
    have hle := I.le
    have hF : tkF s o = (n : Int) := e1
    have hF' : takeF s.2 3 o = (n : Int) := e1
    have gn : g (n : Int) = none := by
      cases hg : g (n : Int) with
      | none => rfl
      | some v =>
        obtain ⟨a, b, c⟩ := v
        have := (I.kd hg).2.2.1
        rw [show ((n : Int)).toNat = n from rfl, hn2] at this
        cases this
    have hT : tkS s o (splG (entA s.1 (16 * f + px (0 + 1) pg % 16))) = (fillL s.1 (n : Int) (splG (entA s.1 (16 * f + px (0 + 1) pg % 16))) 16, takeL s.2 3 o) := by
      unfold tkS
      rw [if_pos hE, hF]
    rw [hT, hF] at k
    obtain ⟨e, hent⟩ : ∃ e, e = entA s.1 (16 * f + px (0 + 1) pg % 16) := ⟨_, rfl⟩
    have heb := entA_rng s.1 (16 * f + px (0 + 1) pg % 16)
    have hold : ∀ {f' o' l x k}, g f' = some (o', l, x) → 0 ≤ k → k < 16 → entA (fillL s.1 (n : Int) (splG (entA s.1 (16 * f + px (0 + 1) pg % 16))) 16) (16 * f' + k) = entA s.1 (16 * f' + k) := fun {f' o' l x k} hg h0 h1 => by
      have hne : f' ≠ (n : Int) := fun e => by rw [e, gn] at hg; cases hg
      have := I.rng hg
      unfold entA
      rw [ld_fill (by omega) (by omega) 16 (Nat.le_refl _), if_neg (by omega)]
    have hway : wayL (fillL s.1 (n : Int) (splG (entA s.1 (16 * f + px (0 + 1) pg % 16))) 16) pg 3 r = wayL s.1 pg 3 r := I.way_congr hold hp 3 (by rw [px4 hp]; exact hr)
    have hwin : WayIn (fillL s.1 (n : Int) (splG (entA s.1 (16 * f + px (0 + 1) pg % 16))) 16) pg r := fun x hx => by
      rw [hway] at hx
      have := I.way_in hr hp x hx
      unfold inM at this ⊢
      rw [fillL_len]; exact this
    rw [← hent] at k hold hway hwin heb
    obtain ⟨W, hW⟩ : ∃ W, W = fillL s.1 (n : Int) (splG e) 16 := ⟨_, rfl⟩
    rw [← hW] at k hway hwin
    clear hold hT
    rw [hF', hE']
    refine brP_neg rfl ⟨fun q v w' => ∃ m : Nat, q + m = 16 ∧ v.1 = (m : Int) ∧ SAt Q D G w0 w' (fillL s.1 (n : Int) (splG e) m, takeL s.2 3 o) ((b, [.bool e.1, .int .i64 e.2.1, .bool e.2.2.1, .int .i64 e.2.2.2.1]) :: L0), ⟨16, fun w6 h6 => ⟨0, rfl, rfl, by rw [hent, ← eP]; exact S.ext h6⟩⟩, ?_⟩
    clear S
    rintro q ⟨v, u⟩ w6 ⟨m, hq2, ev, S⟩
    dsimp only at ev ⊢
    subst ev
    refine brP_intro (fun d => ⟨rfl, S.ldA 0 rfl rfl ⟨rfl, S.ldA 0 rfl rfl ?_⟩⟩) (fun d => ?_)
    · have d : m < 16 := by simp at d; omega
      have a1 : addI .i64 (mulI .i64 16 (n : Int)) (m : Int) = 16 * (n : Int) + (m : Int) := by rw [mulI_i64 (by omega) (by omega), addI_i64 (by omega) (by omega)]
      have a2 : addI .i64 e.2.2.2.1 (m : Int) = e.2.2.2.1 + (m : Int) := addI_i64 (by omega) (by omega)
      rw [a1, a2]
      refine S.rlay (k0 + 1) ht _ (true, e.2.1, false, e.2.2.2.1 + (m : Int), ()) fun w7 S => fun w8 h8 => ⟨q - 1, by omega, m + 1, by omega, ?_, S.ext h8⟩
      rw [addI_i64 (by omega) (by omega)]; omega
    · have d : m = 16 := by simp at d; omega
      subst d
      rw [← hW] at S
      clear hW
      have hlen4 : (wayL s.1 pg 3 r).length ≤ 4 := wayL_len s.1 pg 3 r
      have hpos : 0 < (wayL s.1 pg 3 r).length := List.length_pos_iff.2 (wayL_ne s.1 pg 3 r)
      refine S.rway (k0 + 1) ht pg hwin fun x Ls w7 S hP => ?_
      have hP : PIn Ls x ((wayL s.1 pg 3 r).map (·.1)) := by rw [← hway]; exact hP
      have hl : x.2.1 = (wayL s.1 pg 3 r).length := by
        have := hP.rowN.1
        simpa using this
      have b1 : subI .i64 ((x.2.1 : Nat) : Int) 1 = (((wayL s.1 pg 3 r).length - 1 : Nat) : Int) := by rw [subI_i64 (by omega) (by omega)]; omega
      have hsl := (S.sl hP.rowN (fun y hy => List.mem_append_right _ hy)) ((wayL s.1 pg 3 r).length - 1) f (by rw [List.getElem?_map, end_get, eX]; rfl)
      have eat : atI f pg 1 = 16 * f + px (0 + 1) pg % 16 := at_px (l := 1) ⟨hfr.1, hfr.2.1⟩ hp (by omega)
      rw [b1]
      refine ⟨⟨hsl.1, by omega, by omega⟩, LdP.of f hsl.2 ⟨trivial, ?_⟩⟩
      rw [eat]
      exact S.rlay (k0 + 1) (app_get (k := k0 + 1) (L := (b, [Value.bool e.1, .int .i64 e.2.1, .bool e.2.2.1, .int .i64 e.2.2.2.1]) :: L0) ht) _ (leadP (n : Int)) fun w8 S => S.en fun w9 S => k w9 (S.sub (List.sublist_append_left _ _)).tail
  · rw [if_neg hE, tkS_err hE] at k
    have hE' : ¬ takeE s.2 3 o = 0 := hE
    rw [takeL_err hE'] at S
    exact brP_pos (by simpa using hE') (S.en fun w6 S => k w6 S.tail)
end SAt
end
end Go.Proofs.YtkldededdgpmbaaGreat
namespace Go.Proofs.YtkldededdgpmbaaGreat
set_option linter.unusedSimpArgs false
set_option linter.unusedVariables false
set_option maxRecDepth 100000
open Go.RX D
/-! ### The document's Unmap, Protect -/
theorem unmS_of {s : WD} {o r pg : Int} (hq : (qryV s r false pg).2.2.1 = 0) (hs : splE s o r pg = 0) : unmS s o r false pg = thinS (wayL (splS s o r pg).1 pg 3 r).reverse (stL (splS s o r pg).1 (endX (splS s o r pg).1 r pg).2.2.1 0, (splS s o r pg).2) := by
  unfold unmS; rw [if_pos hq, if_pos hs]
theorem thin_step (F : Nat → Int) (p : Int) (j n : Nat) (t : WD) : thinS (upF F p j (n + 1)) t = if allZ t.1 (F j) = true then thinS (upF F p (j + 1) n) (stL t.1 (16 * F (j + 1) + px (j + 1) p % 16) 0, chL t.2 (F j) (turnG 5 0)) else t := by
  obtain ⟨l', hl'⟩ := upF_head F p (j + 1) n
  have hup : upF F p j (n + 1) = (F j, (j : Int), 16 * F j + px j p % 16, ()) :: (F (j + 1), ((j + 1 : Nat) : Int), 16 * F (j + 1) + px (j + 1) p % 16, ()) :: l' := by rw [upF, hl']
  rw [hup, hl', xthin2]
section
variable {Q : Sys} {D G : List Nat} {w0 w : World} {s : WD} {L0 : List (Nat × List Value)} {bt : Nat} {o r : Int} {gone : Bool}
namespace SAt
theorem rempty (S : SAt Q D G w0 w s L0) (k0 : Nat) (ht : L0[k0]? = some (bt, tcs Q o r gone)) {f : Int} (hf : 0 ≤ f ∧ f < 4096) (hl : 16 * f + 16 ≤ s.1.length) : QCalls Tryz.prog 75 [.pointer (some ⟨bt, 0, none⟩), .int .i64 f] w (.bool (allZ s.1 f)) := by
  refine QCalls.of (s := .el (.one .bool)) fun w' h' => rxFn_ok (C := N2) (ann := yempty_vc_ann) (Eq.mpr (yempty_vc _ f w' _) ?_)
  have S := S.ext h'
  refine ⟨fun n v w2 => ∃ m : Nat, n + m = 16 ∧ v.1 = (m : Int) ∧ (∀ k : Nat, k < m → ldV s.1 (16 * f + (k : Int)) = 0) ∧ Ext w' w2, ⟨16, fun w2 h2 => ⟨0, rfl, rfl, fun k hk => by omega, h2⟩⟩, ?_⟩
  rintro n ⟨v, u⟩ w2 ⟨m, hn, e, hz, h2⟩
  dsimp only at e ⊢
  subst e
  have S := S.ext h2
  refine brP_intro (fun d => ⟨rfl, rfl, S.ldA k0 ht rfl ⟨rfl, rfl, LdP.of _ S.rdL ?_⟩⟩) (fun d => fun w3 h3 => ⟨?_, h2.trans h3⟩)
  · have d : m < 16 := by simp at d; omega
    have e1 : addI .i64 (mulI .i64 16 f) (m : Int) = 16 * f + (m : Int) := by rw [mulI_i64 (by omega) (by omega), addI_i64 (by omega) (by omega)]
    have hin : inM s.1 (16 * f + (m : Int)) = true := inM_rng (by omega) (by omega)
    rw [e1]
    refine ⟨⟨rfl, by omega, by show 16 * f + (m : Int) < ((s.1.length : Nat) : Int); omega⟩, LdP.of _ (S.rdW hin) (brP_intro (fun c => fun w3 h3 => ⟨?_, h2.trans h3⟩) (fun c => fun w3 h3 => ⟨n - 1, by omega, m + 1, by omega, by rw [addI_i64 (by omega) (by omega)]; omega, fun k hk => ?_, h2.trans h3⟩))⟩
    · have c : ¬ ldV s.1 (16 * f + (m : Int)) = 0 := by simpa using c
      cases ha : allZ s.1 f with
      | false => rfl
      | true => exact absurd (allZ_all hf.1 hl ha (m : Int) (by omega) (by omega)) c
    · have c : ldV s.1 (16 * f + (m : Int)) = 0 := by simpa using c
      by_cases e : k = m
      · subst e; exact c
      · exact hz k (by omega)
  · have d : m = 16 := by simp at d; omega
    subst d
    cases ha : allZ s.1 f with
    | true => rfl
    | false =>
      obtain ⟨k, k0, k1, k2⟩ := allZ_not hf.1 hl ha
      have := hz k.toNat (by omega)
      rw [show ((k.toNat : Nat) : Int) = k from by omega] at this
      exact absurd this k2
theorem runmap (S : SAt Q D G w0 w s L0) (k0 : Nat) (ht : L0[k0]? = some (bt, tcs Q o r gone)) {g : Gh} (hI : gone = false → Inv g s ∧ g r = some (o, 3, 0)) (pg : Int) {K : Int × Int × Unit → World → Prop} (k : ∀ w2, SAt Q D G w0 w2 (unmS s o r gone pg) L0 → K (unmF s o r gone pg, unmE s o r gone pg, ()) w2) :
    CaP Tryz.prog 42 (.tup [.one (.int .i64), .one (.int .i64)]) [.pointer (some ⟨bt, 0, none⟩), .int .i64 pg] w K := by
  refine S.go fun w1 S => rxFn_ok (C := N2) (ann := yunmap_vc_ann) (Eq.mpr (yunmap_vc _ pg w1 K) ?_)
  refine S.rquery k0 ht pg (fun h hp => (hI h).1.way_in (hI h).2 hp) fun w2 S => ?_
  by_cases hq : (qryV s r gone pg).2.2.1 = 0
  rotate_left
  · have e1 : unmE s o r gone pg = (qryV s r gone pg).2.2.1 := if_neg hq
    have e2 : unmF s o r gone pg = 0 := unmF_err (by rw [e1]; exact hq)
    rw [unm_err (by rw [e1]; exact hq), e2, e1] at k
    exact brP_pos (by simpa using hq) (S.en fun w3 S => k w3 S)
  obtain ⟨rfl, hp⟩ := qry_rng hq
  obtain ⟨I, hr⟩ := hI rfl
  have e1 : unmE s o r false pg = splE s o r pg := if_pos hq
  refine brP_neg (by simpa using hq) (S.rsplit k0 ht I hr hp hq fun w3 S => ?_)
  by_cases hs : splE s o r pg = 0
  rotate_left
  · have hE : ¬ unmE s o r false pg = 0 := by rw [e1]; exact hs
    rw [unm_err hE, unmF_err hE, e1] at k
    rw [spl_err hs] at S
    exact brP_pos (by simpa using hs) (S.en fun w4 S => k w4 S)
  have eF : unmF s o r false pg = (qryV s r false pg).1 := if_pos (by rw [e1]; exact hs)
  rw [eF, e1, hs, unmS_of hq hs] at k
  obtain ⟨f, j, hj, he⟩ := I.end_at hr hp
  have hq2 := hq
  rw [I.qry_of hr hp he] at hq2
  obtain ⟨g1, f0, C1, E1, _, _⟩ := I.split hr hp he (resE_ok hq2) hs
  have hr1 := C1.root.to hr
  have eX1 := (C1.inv.endX_of hr1 hp E1).1
  obtain ⟨F, hF, U, hW⟩ := C1.inv.way4 hr1 hp E1
  rw [hW, eX1] at k
  dsimp only at k
  have hfr : ∀ i, i ≤ 3 → 0 ≤ F i ∧ F i < 4096 ∧ 16 * F i + 16 ≤ (splS s o r pg).1.length := fun i hi => C1.inv.rng (U.gh i (Nat.zero_le _) hi)
  have hwin := C1.inv.way_in hr1 hp
  generalize splS s o r pg = t at *
  have hat : ∀ i, i ≤ 3 → atI (F i) pg (i : Int) = 16 * F i + px i pg % 16 := fun i hi => at_px ⟨(hfr i hi).1, (hfr i hi).2.1⟩ hp hi
  have hfrm : (wayL t.1 pg 3 r).map (·.1) = [F 3, F 2, F 1, F 0] := by
    have : wayL t.1 pg 3 r = (upF F pg 0 3).reverse := by rw [← hW, List.reverse_reverse]
    rw [this]; rfl
  obtain ⟨z, hz⟩ : ∃ z, z = thinS (upF F pg 0 3) (stL t.1 (16 * f0 + px 0 pg % 16) 0, t.2) := ⟨_, rfl⟩
  rw [← hz] at k
  rw [hs]
  refine brP_neg rfl (S.rway k0 ht pg hwin fun x Ls w4 S hP => ?_)
  rw [hfrm] at hP
  have hx : x.2.1 = 4 := hP.rowN.1
  have ht' : ∀ {t : WD} {w : World}, SAt Q D G w0 w t (L0 ++ Ls) → (L0 ++ Ls)[k0]? = some (bt, tcs Q o r false) := fun _ => app_get ht
  have rdF : ∀ {t : WD} {w : World}, SAt Q D G w0 w t (L0 ++ Ls) → ∀ i : Nat, i ≤ 3 → x.1.isSome = true ∧ rdAt w (addP x.1 (i * 1)) eN (F (3 - i)) := fun {t w} S i hi => by
    refine (S.sl hP.rowN (fun y hy => List.mem_append_right _ hy)) i (F (3 - i)) ?_
    rcases i with _ | _ | _ | _ | i
    · rfl
    · rfl
    · rfl
    · rfl
    · omega
  refine ⟨rfl, rfl, S.ldA k0 (app_get ht) rfl ⟨⟨(rdF S 3 (Nat.le_refl _)).1, by decide, by rw [hx]; decide⟩, LdP.of (F 0) (rdF S 3 (Nat.le_refl _)).2 ⟨trivial, ?_⟩⟩⟩
  have ea : atI (F 0) pg 0 = 16 * f0 + px 0 pg % 16 := by rw [← hF]; exact hat 0 (by omega)
  rw [ea]
  refine S.rstore _ 0 ⟨by decide, by decide⟩ fun w5 S => ?_
  refine ⟨fun n v w' => ∃ (j : Nat) (t2 : WD), n + j = 3 ∧ v.1 = (n : Int) ∧ t2.1.length = t.1.length ∧ thinS (upF F pg j n) t2 = z ∧ SAt Q D G w0 w' t2 (L0 ++ Ls), ⟨3, fun w6 h6 => ⟨0, _, rfl, rfl, stL_len _ _ _, hz.symm, S.ext h6⟩⟩, ?_⟩
  clear S
  rintro n ⟨v, u⟩ w6 ⟨j, t2, hn, e, hlen, hd, S⟩
  dsimp only at e ⊢
  subst e
  have hj3 : j ≤ 3 := by omega
  have hrd := rdF S n (by omega)
  have e3 : 3 - n = j := by omega
  rw [e3] at hrd
  obtain ⟨b1, b2, b3⟩ := hfr j hj3
  have hrd2 : rdAt w6 (addP x.1 (Int.toNat (n : Int) * 1)) eN (F j) := hrd.2
  refine ⟨fun _ => ⟨hrd.1, by omega, by omega⟩, LdP.of (F j) hrd2 ⟨_, fun _ => S.rempty k0 (app_get ht) ⟨b1, b2⟩ (by omega), ?_⟩⟩
  rcases n with _ | n
  · have hd : t2 = z := hd
    subst hd
    exact brP_neg rfl (S.en fun w7 S => k w7 (S.sub (List.sublist_append_left _ _)))
  · rw [thin_step] at hd
    cases ha : allZ t2.1 (F j) with
    | false =>
      rw [ha, if_neg (by decide)] at hd
      subst hd
      exact brP_neg (by simp) (S.en fun w7 S => k w7 (S.sub (List.sublist_append_left _ _)))
    | true =>
      rw [ha, if_pos rfl] at hd
      have hrd3 := rdF S n (by omega)
      have e4 : 3 - n = j + 1 := by omega
      rw [e4] at hrd3
      have es : subI .i64 ((n + 1 : Nat) : Int) 1 = (n : Int) := by rw [subI_i64 (by omega) (by omega)]; omega
      have es2 : subI .i64 4 ((n + 1 : Nat) : Int) = ((j + 1 : Nat) : Int) := by rw [subI_i64 (by omega) (by omega)]; omega
      rw [es, es2]
      refine brP_pos (by simp) ⟨rfl, rfl, S.ldA k0 (app_get ht) rfl ⟨⟨hrd.1, by omega, by omega⟩, LdP.of (F (j + 1)) hrd3.2 ⟨trivial, ?_⟩⟩⟩
      rw [hat (j + 1) (by omega)]
      refine S.rstore _ 0 ⟨by decide, by decide⟩ fun w7 S => ⟨rfl, rfl, S.ldA k0 (app_get ht) rfl ⟨⟨hrd.1, by omega, by omega⟩, LdP.of (F j) ?_ (S.rturn (F j) 5 0 fun w8 S => fun w9 h9 => ⟨n, by omega, j + 1, _, by omega, rfl, ?_, hd, S.ext h9⟩)⟩⟩
      · have := (rdF S (n + 1) (by omega)).2
        rw [e3] at this
        exact this
      · show (stL t2.1 _ 0).length = _
        rw [stL_len]; exact hlen
theorem rprotect (S : SAt Q D G w0 w s L0) (k0 : Nat) (ht : L0[k0]? = some (bt, tcs Q o r gone)) {g : Gh} (hI : gone = false → Inv g s ∧ g r = some (o, 3, 0)) (pg rt : Int) {K : Int → World → Prop} (k : ∀ w2, SAt Q D G w0 w2 (proS s o r gone pg rt) L0 → K (proE s o r gone pg rt) w2) :
    CaP Tryz.prog 43 (.el (.one (.int .i64))) [.pointer (some ⟨bt, 0, none⟩), .int .i64 pg, .int .i64 rt] w K := by
  refine S.go fun w1 S => rxFn_ok (C := N2) (ann := fun _ => []) (Eq.mpr (yprot_vc _ pg rt w1 K) ?_)
  refine ⟨rfl, rfl, S.ldA k0 ht rfl ?_⟩
  unfold proS proE at k
  cases gone with
  | true =>
    rw [if_pos rfl, if_pos rfl] at k
    exact brP_pos rfl (S.en fun w2 S => k w2 S)
  | false =>
  have hff : ¬ (false = true) := by decide
  rw [if_neg hff, if_neg hff] at k
  obtain ⟨I, hr⟩ := hI rfl
  refine brP_neg rfl (brP_intro (fun c => S.en fun w2 S => ?_) (fun c => brP_intro (fun c2 => S.en fun w2 S => ?_) (fun c2 => ?_)))
  · have c : pg < 0 ∨ pg ≥ 65536 ∨ (0 : Int) < 0 ∨ (0 : Int) ≥ 4096 := by
      simp only [Bool.or_eq_true, decide_eq_true_eq] at c; omega
    have e : rgtE pg 0 rt = 2 := if_pos c
    rw [e, if_neg (by decide), if_neg (by decide)] at k
    exact k w2 S
  · have c : ¬ (pg < 0 ∨ pg ≥ 65536 ∨ (0 : Int) < 0 ∨ (0 : Int) ≥ 4096) := by
      simp only [Bool.or_eq_false_iff, decide_eq_false_iff_not] at c; omega
    have e : rgtE pg 0 rt = 7 := by unfold rgtE; rw [if_neg c, if_pos (by simpa using c2)]
    rw [e, if_neg (by decide), if_neg (by decide)] at k
    exact k w2 S
  have c1 : ¬ (pg < 0 ∨ pg ≥ 65536 ∨ (0 : Int) < 0 ∨ (0 : Int) ≥ 4096) := by
    simp only [Bool.or_eq_false_iff, decide_eq_false_iff_not] at c; omega
  have hp : 0 ≤ pg ∧ pg < 65536 := by omega
  have e0 : rgtE pg 0 rt = 0 := by unfold rgtE; rw [if_neg c1, if_neg (by simpa using c2)]
  rw [if_pos e0, if_pos e0] at k
  obtain ⟨f, j, hj, he⟩ := I.end_at hr hp
  obtain ⟨eX, eP⟩ := I.endX_of hr hp he
  have hQ := I.qry_of hr hp he
  refine S.rquery k0 ht pg (fun _ hp => I.way_in hr hp) fun w2 S => ?_
  by_cases hb : (entA s.1 (16 * f + px j pg % 16)).1 = true
  rotate_left
  · have hb : (entA s.1 (16 * f + px j pg % 16)).1 = false := by simpa using hb
    rw [eP, hb, if_neg hff, if_neg hff] at k
    rw [hQ, res0 _ _ hb]
    exact brP_pos rfl (S.en fun w3 S => k w3 S)
  have hq0 : (qryV s r false pg).2.2.1 = 0 := by rw [hQ]; unfold resE; rw [if_pos hb]
  have hqr : (qryV s r false pg).2.1 = (entA s.1 (16 * f + px j pg % 16)).2.1 := by rw [hQ]; unfold resE; rw [if_pos hb]
  have hqf : (qryV s r false pg).1 = frmP pg (endX s.1 r pg) (endP s.1 r pg) := by
    rw [hQ, eX, eP]
    unfold resE frmP
    rw [if_pos hb]
    by_cases h1 : j = 1
    · subst h1; rfl
    · rw [if_neg h1, if_neg (by show ¬ ((j : Int) = 1); omega)]
  have hlf := I.leaf he.1 (px_i pg j).1 (px_i pg j).2 hb he.2
  rw [eP, if_pos hb, if_pos hb] at k
  rw [← eP] at k
  rw [hq0]
  refine brP_neg rfl ?_
  rw [hqr]
  -- the way on, once it is split
  have go : ∀ {w3 : World} {L1 : List (Nat × List Value)}, ¬ ((endP s.1 r pg).2.2.1 && (endP s.1 r pg).2.1 == rt) = true → SAt Q D G w0 w3 s (L1 ++ L0) →
      CaP Tryz.prog 71 (.el (.one (.int .i64))) [.pointer (some ⟨bt, 0, none⟩), .int .i64 pg] w3 (fun (x_2 : Int) (w2 : World) => brP (x_2 != 0) (EnP w2 fun (w1 : World) => K x_2 w1)
        (CaP Tryz.prog 72 (.el (.one .slice)) [.pointer (some ⟨bt, 0, none⟩), .int .i64 pg] w2 fun (x_3 : Option Addr × Nat × Nat) (w2 : World) =>
          (x_3.1.isSome = true ∧ (0 : Int) ≤ 3 ∧ (3 : Int) < ((x_3.2.1 : Nat) : Int)) ∧ LdP w2 none (addP x_3.1 3) (.one (.int .i64)) fun (x_4 : Int) => True ∧
            CaP Tryz.prog 77 (.tup []) [.pointer (some ⟨bt, 0, none⟩), .int .i64 (atI x_4 pg 0), .agg ⟨[.bool true, .int .i64 rt, .bool false, .int .i64 (qryV s r false pg).1]⟩] w2 fun (x : Unit) (w2 : World) => EnP w2 fun (w1 : World) => K 0 w1)) := by
    intro w3 L1 hne S
    rw [if_neg hne, if_neg hne] at k
    have htL : (L1 ++ L0)[L1.length + k0]? = some (bt, tcs Q o r false) := by
      rw [List.getElem?_append_right (by omega), show L1.length + k0 - L1.length = k0 by omega]; exact ht
    refine S.rsplit (L1.length + k0) htL I hr hp hq0 fun w4 S => ?_
    by_cases hs : splE s o r pg = 0
    rotate_left
    · rw [if_neg hs, spl_err hs] at k
      rw [spl_err hs] at S
      exact brP_pos (by simpa using hs) (S.en fun w5 S => k w5 (S.sub (List.sublist_append_right _ _)))
    rw [if_pos hs, hs] at k
    obtain ⟨g1, f0, C1, E1, _, _⟩ := I.split hr hp he hb hs
    have hr1 := C1.root.to hr
    have eX1 := (C1.inv.endX_of hr1 hp E1).1
    obtain ⟨F, hF, U, hW⟩ := C1.inv.way4 hr1 hp E1
    have hfr := C1.inv.rng E1.1
    have hwin := C1.inv.way_in hr1 hp
    rw [eX1] at k
    rw [hs, hqf]
    generalize splS s o r pg = t at *
    have hfrm : (wayL t.1 pg 3 r).map (·.1) = [F 3, F 2, F 1, F 0] := by
      have : wayL t.1 pg 3 r = (upF F pg 0 3).reverse := by rw [← hW, List.reverse_reverse]
      rw [this]; rfl
    refine brP_neg rfl (S.rway (L1.length + k0) htL pg hwin fun x Ls w5 S hP => ?_)
    rw [hfrm] at hP
    have hx : x.2.1 = 4 := hP.rowN.1
    have hrd := (S.sl hP.rowN (fun y hy => List.mem_append_right _ hy)) 3 (F 0) rfl
    refine ⟨⟨hrd.1, by decide, by rw [hx]; decide⟩, LdP.of (F 0) hrd.2 ⟨trivial, ?_⟩⟩
    have ea : atI (F 0) pg 0 = 16 * f0 + px 0 pg % 16 := by rw [hF]; exact at_px (l := 0) ⟨hfr.1, hfr.2.1⟩ hp (by omega)
    rw [ea]
    refine S.rlay (L1.length + k0) (app_get htL) _ (true, rt, false, frmP pg (endX s.1 r pg) (endP s.1 r pg), ()) fun w6 S => S.en fun w7 S => k w7 ((S.sub (List.sublist_append_left _ _)).sub (List.sublist_append_right _ _))
  refine brP_intro (fun d => ?_) (fun d => ?_)
  · have d : (entA s.1 (16 * f + px j pg % 16)).2.1 = rt := by simpa using d
    refine S.rlast k0 ht pg (I.way_in hr hp) fun w3 S => S.al fun b w4 S => S.stAll 0 rfl rfl rfl fun w5 S => ?_
    rw [eX]
    dsimp only
    rcases hlf with ⟨rfl, hl⟩ | ⟨rfl, hl, _⟩
    · refine brP_neg rfl (go (L1 := [_]) ?_ S)
      rw [eP, hl]; simp
    · have hyes : ((endP s.1 r pg).2.2.1 && (endP s.1 r pg).2.1 == rt) = true := by rw [eP, hl, d]; simp
      rw [if_pos hyes, if_pos hyes] at k
      exact brP_pos rfl (S.en fun w6 S => k w6 S.tail)
  · have d : ¬ (entA s.1 (16 * f + px j pg % 16)).2.1 = rt := by simpa using d
    refine go (L1 := []) ?_ S
    rw [eP]; simp [d]
end SAt
end
end Go.Proofs.YtkldededdgpmbaaGreat
namespace Go.Proofs.YtkldededdgpmbaaGreat
set_option linter.unusedSimpArgs false
set_option linter.unusedVariables false
set_option maxRecDepth 100000
open Go.RX D
/-! ### The document's All and Drop -/
theorem insD_sorted (x : Int) : ∀ l : List Int, l.Pairwise (fun a b => b ≤ a) → (insD x l).Pairwise (fun a b => b ≤ a)
  | [], _ => by simp [insD]
  | y :: l, h => by
    rw [insD]
    obtain ⟨h1, h2⟩ := List.pairwise_cons.1 h
    split
    · rename_i c
      refine List.pairwise_cons.2 ⟨fun z hz => ?_, insD_sorted x l h2⟩
      rcases List.mem_cons.1 ((insD_perm x l).mem_iff.1 hz) with rfl | hz
      · omega
      · exact h1 z hz
    · rename_i c
      refine List.pairwise_cons.2 ⟨fun z hz => ?_, h⟩
      rcases List.mem_cons.1 hz with rfl | hz
      · omega
      · have := h1 z hz; omega
theorem fold_sorted : ∀ (l a : List Int), a.Pairwise (fun a b => b ≤ a) → (l.foldl (fun a x => insD x a) a).Pairwise (fun a b => b ≤ a)
  | [], _, h => h
  | x :: l, a, h => fold_sorted l _ (insD_sorted x a h)
theorem sortI_sorted (l : List Int) : (sortI l).Pairwise (fun a b => a ≤ b) := by
  unfold sortI
  rw [List.pairwise_reverse]
  exact fold_sorted l [] List.Pairwise.nil
theorem sift_perm (l : List Int) : ∀ n : Nat, ((List.range n).flatMap fun (f : Nat) => l.filter (fun z => z == (f : Int))).Perm (l.filter fun z => decide (0 ≤ z) && decide (z < (n : Int)))
  | 0 => by
    have : (l.filter fun z => decide (0 ≤ z) && decide (z < ((0 : Nat) : Int))) = [] := List.filter_eq_nil_iff.2 fun z _ => by simp
    rw [this]; exact List.Perm.nil
  | n + 1 => by
    rw [List.range_succ, List.flatMap_append]
    have e : ([n].flatMap fun (f : Nat) => l.filter (fun z => z == (f : Int))) = l.filter (fun z => z == (n : Int)) := by simp
    rw [e]
    refine ((sift_perm l n).append_right _).trans ?_
    have h := List.filter_append_perm (fun z : Int => decide (z < (n : Int))) (l.filter fun z => decide (0 ≤ z) && decide (z < ((n + 1 : Nat) : Int)))
    rw [List.filter_filter, List.filter_filter] at h
    have e1 : (l.filter fun z => decide (z < (n : Int)) && (decide (0 ≤ z) && decide (z < ((n + 1 : Nat) : Int)))) = l.filter fun z => decide (0 ≤ z) && decide (z < (n : Int)) := List.filter_congr fun z _ => by
      rw [Bool.eq_iff_iff]; simp only [Bool.and_eq_true, decide_eq_true_eq]; omega
    have e2 : (l.filter fun z => (!decide (z < (n : Int))) && (decide (0 ≤ z) && decide (z < ((n + 1 : Nat) : Int)))) = l.filter fun z => z == (n : Int) := List.filter_congr fun z _ => by
      rw [Bool.eq_iff_iff]; simp only [Bool.and_eq_true, decide_eq_true_eq, Bool.not_eq_true', decide_eq_false_iff_not, beq_iff_eq]; omega
    rw [e1, e2] at h
    exact h
theorem sift_sorted (l : List Int) : ∀ n : Nat, ((List.range n).flatMap fun (f : Nat) => l.filter (fun z => z == (f : Int))).Pairwise (fun a b => a ≤ b)
  | 0 => List.Pairwise.nil
  | n + 1 => by
    rw [List.range_succ, List.flatMap_append]
    have e : ([n].flatMap fun (f : Nat) => l.filter (fun z => z == (f : Int))) = l.filter (fun z => z == (n : Int)) := by simp
    rw [e]
    refine List.pairwise_append.2 ⟨sift_sorted l n, List.pairwise_iff_forall_sublist.2 fun {a b} hab => ?_, fun a ha b hb => ?_⟩
    · have h1 := (List.mem_filter.1 (hab.subset (List.mem_cons_self))).2
      have h2 := (List.mem_filter.1 (hab.subset (List.mem_cons_of_mem _ List.mem_cons_self))).2
      have h1 : a = (n : Int) := by simpa using h1
      have h2 : b = (n : Int) := by simpa using h2
      omega
    · have h1 := (List.mem_filter.1 ((sift_perm l n).mem_iff.1 ha)).2
      have h2 : b = (n : Int) := by simpa using (List.mem_filter.1 hb).2
      simp only [Bool.and_eq_true, decide_eq_true_eq] at h1
      omega
theorem sift_eq (l : List Int) (n : Nat) (h : ∀ z ∈ l, 0 ≤ z ∧ z < (n : Int)) : ((List.range n).flatMap fun (f : Nat) => l.filter (fun z => z == (f : Int))) = sortI l := by
  have e : (l.filter fun z => decide (0 ≤ z) && decide (z < (n : Int))) = l := List.filter_eq_self.2 fun z hz => by
    have := h z hz; simp; omega
  have hp := sift_perm l n
  rw [e] at hp
  exact List.Perm.eq_of_pairwise (fun a b _ _ h1 h2 => by omega) (sift_sorted l n) (sortI_sorted l) (hp.trans (sortI_perm l).symm)
theorem under_le (ws : List Int) {l : Nat} (hl : l ≤ 3) (f : Int) : (underL ws l f).length ≤ 4369 := by
  rcases underL_len ws l f with h | h
  · rcases l with _ | _ | _ | l
    · exact Nat.le_trans h (by decide)
    · exact Nat.le_trans h (by decide)
    · exact Nat.le_trans h (by decide)
    · have e : l = 0 := by omega
      subst e
      exact h
  · omega
section
variable {Q : Sys} {D G : List Nat} {w0 w : World} {s : WD} {L0 : List (Nat × List Value)} {bt : Nat} {o r : Int} {gone : Bool}
namespace SAt
theorem runder {g : Gh} (I : Inv g s) : ∀ (l : Nat) {f x o' : Int} {w : World} {L0 : List (Nat × List Value)} {k0 : Nat}, SAt Q D G w0 w s L0 → L0[k0]? = some (bt, tcs Q o r gone) → g f = some (o', l, x) →
    ∀ {K : Option Addr × Nat × Nat → World → Prop}, (∀ sl Ls w2, PIn Ls sl (underL s.1 l f) → SAt Q D G w0 w2 s (L0 ++ Ls) → K sl w2) →
    CaP Tryz.prog 51 (.el (.one .slice)) [.pointer (some ⟨bt, 0, none⟩), .int .i64 f, .int .i64 (l : Int)] w K
  | 0, f, x, o', w, L0, k0, S, ht, hf, K, k => by
    refine S.go fun w1 S => rxFn_ok (C := N2) (ann := yunder_vc_ann) (Eq.mpr (yunder_vc _ f _ w1 K) ?_)
    refine S.al fun b w2 S => ?_
    have S : SAt Q D G w0 w2 s (L0 ++ [(b, [.int .i64 f])]) := S.perm (List.perm_append_singleton _ _)
    refine ⟨fun n v w' => v = ((some ⟨b, 0, none⟩, 1, 1), 0, ()) ∧ SAt Q D G w0 w' s (L0 ++ [(b, [.int .i64 f])]), ⟨0, fun w3 h3 => ⟨rfl, S.ext h3⟩⟩, ?_⟩
    rintro n v w3 ⟨rfl, S⟩
    exact brP_neg rfl (S.en fun w4 S => k _ _ w4 (.inr ⟨b, 1, [], rfl, rfl, rfl, Nat.le_refl _⟩) S)
  | l + 1, f, x, o', w, L0, k0, S, ht, hf, K, k => by
    refine S.go fun w1 S => rxFn_ok (C := N2) (ann := yunder_vc_ann) (Eq.mpr (yunder_vc _ f _ w1 K) ?_)
    obtain ⟨b1, b2, b3⟩ := I.rng hf
    have hl3 := (I.kd hf).2.2.2.2.2
    refine S.al fun b w2 S => ?_
    have S : SAt Q D G w0 w2 s (L0 ++ [(b, [.int .i64 f])]) := S.perm (List.perm_append_singleton _ _)
    refine ⟨fun n v w' => ∃ (m : Nat) (Ls : List (Nat × List Value)), v.2.1 = (m : Int) ∧ n + m = 16 ∧ PIn Ls v.1 (f :: (List.range m).flatMap (subU s.1 (l + 1) f)) ∧ SAt Q D G w0 w' s (L0 ++ Ls), ⟨16, fun w3 h3 => ⟨0, _, rfl, rfl, .inr ⟨b, 1, [], rfl, rfl, rfl, Nat.le_refl _⟩, S.ext h3⟩⟩, ?_⟩
    clear S
    rintro n ⟨sl, v, u⟩ w3 ⟨m, Ls, e, hn, hP, S⟩
    dsimp only at e hP ⊢
    subst e
    rw [underL_eq] at k
    refine brP_intro (fun c => ?_) (fun c => ?_)
    · have hm : m < 16 := by
        simp only [Bool.and_eq_true, decide_eq_true_eq] at c; omega
      obtain ⟨z, hz⟩ := range_pre hm (subU s.1 (l + 1) f)
      have hsucc : (List.range (m + 1)).flatMap (subU s.1 (l + 1) f) = (List.range m).flatMap (subU s.1 (l + 1) f) ++ subU s.1 (l + 1) f m := by
        rw [List.range_succ, List.flatMap_append]; simp
      have hlen := under_le s.1 hl3 f
      rw [underL_eq, hz] at hlen
      simp only [List.length_cons, List.length_append] at hlen
      have e1 : addI .i64 (mulI .i64 16 f) (m : Int) = 16 * f + (m : Int) := by rw [mulI_i64 (by omega) (by omega), addI_i64 (by omega) (by omega)]
      have hin : inM s.1 (16 * f + (m : Int)) = true := inM_rng (by omega) (by omega)
      have eadd : addI .i64 (m : Int) 1 = ((m + 1 : Nat) : Int) := by rw [addI_i64 (by omega) (by omega)]; omega
      have hw := ld_rng S.okw (16 * f + (m : Int))
      rw [e1, eadd]
      refine ⟨rfl, rfl, S.ldA k0 (app_get ht) rfl ⟨rfl, rfl, LdP.of _ S.rdL ⟨⟨rfl, by omega, by show 16 * f + (m : Int) < ((s.1.length : Nat) : Int); omega⟩, LdP.of _ (S.rdW hin) ⟨U_B' hw.1 hw.2, S.al fun b1 w4 S => S.stAll 0 rfl rfl rfl fun w5 S => S.ld 0 rfl rfl ⟨trivial, ?_⟩⟩⟩⟩⟩
      refine brP_intro (fun c0 => ?_) (fun c0 => ?_)
      · have c0 : tabP (entA s.1 (16 * f + (m : Int))) = true := c0
        obtain ⟨m', hm', hg⟩ := I.tab hf (i := (m : Int)) (by omega) (by omega) c0
        have hm' : l = m' := by omega
        subst hm'
        have hsub : subU s.1 (l + 1) f m = underL s.1 l (entA s.1 (16 * f + (m : Int))).2.2.2.1 := if_pos c0
        have es : subI .i64 ((l + 1 : Nat) : Int) 1 = (l : Int) := by rw [subI_i64 (by omega) (by omega)]; omega
        rw [es]
        refine ⟨rfl, S.ldA 0 rfl rfl (runder I l (k0 := k0 + 1) S (app_get ht) hg fun sl2 Ls2 w6 hP2 S => fun w7 h7 => ?_)⟩
        rw [← hsub] at hP2
        have hne : subU s.1 (l + 1) f m ≠ [] := by rw [hsub]; exact underL_ne _ _ _
        rcases hP2 with ⟨_, h, _⟩ | ⟨b2, cy, ry, rfl, rfl, _, _⟩
        · exact absurd h hne
        have S := (S.ext h7).tail
        have S := S.perm (L1 := (b2, flat eN (subU s.1 (l + 1) f m) ++ ry) :: (L0 ++ Ls)) (List.perm_append_singleton _ _).symm
        refine S.growN hP hne (by simp only [List.length_cons]; omega) fun Ls' sl' w8 hP' S => fun w9 h9 => ⟨n - 1, by omega, m + 1, Ls', rfl, by omega, ?_, S.ext h9⟩
        rw [hsucc]
        exact hP'
      · have c0 : tabP (entA s.1 (16 * f + (m : Int))) = false := c0
        have hsub : subU s.1 (l + 1) f m = [] := if_neg (by rw [c0]; decide)
        refine fun w9 h9 => ⟨n - 1, by omega, m + 1, Ls, rfl, by omega, ?_, (S.ext h9).tail⟩
        rw [hsucc, hsub, List.append_nil]
        exact hP
    · have hm : m = 16 := by
        simp only [Bool.and_eq_false_iff, decide_eq_false_iff_not] at c; omega
      subst hm
      exact S.en fun w4 S => k sl Ls w4 hP S
theorem rall (S : SAt Q D G w0 w s L0) (k0 : Nat) (ht : L0[k0]? = some (bt, tcs Q o r gone)) {g : Gh} (hI : gone = false → Inv g s ∧ g r = some (o, 3, 0)) {K : Option Addr × Nat × Nat → World → Prop} (k : ∀ x Ls w2, PIn Ls x (allS2 s r gone) → SAt Q D G w0 w2 s (L0 ++ Ls) → K x w2) :
    CaP Tryz.prog 16 (.el (.one .slice)) [.pointer (some ⟨bt, 0, none⟩)] w K := by
  refine S.go fun w1 S => rxFn_ok (C := N2) (ann := yall_vc_ann) (Eq.mpr (yall_vc _ w1 K) ?_)
  refine ⟨rfl, rfl, S.ldA k0 ht rfl ?_⟩
  cases gone with
  | true => exact brP_pos rfl (S.en fun w2 S => k (none, 0, 0) [] w2 (.inl ⟨rfl, rfl, rfl⟩) (by rw [List.append_nil]; exact S))
  | false =>
  obtain ⟨I, hr⟩ := hI rfl
  refine brP_neg rfl ⟨rfl, rfl, S.ldA k0 ht rfl (runder I 3 S ht hr fun x Ls w2 hP S => ?_)⟩
  have hin : ∀ z ∈ underL s.1 3 r, 0 ≤ z ∧ z < (s.2.length : Int) := fun z hz => by
    obtain ⟨l', x', n, _, h2, _⟩ := I.under_in 3 hr z hz
    have := I.kd h2
    omega
  have hlen := underL_len3 s.1 r
  have hall : allS2 s r false = sortI (underL s.1 3 r) := if_neg (by decide)
  rw [hall, ← sift_eq _ s.2.length hin] at k
  generalize underL s.1 3 r = l at *
  have hP2 := hP.rowN
  obtain ⟨xp, xn, xc⟩ := x
  have hxl : xn = l.length := hP2.1
  subst hxl
  have hLe := I.le
  have hcut : ∀ m : Nat, ((List.range m).flatMap fun (f : Nat) => l.filter (fun z => z == (f : Int))).length ≤ 4369 := fun m => by
    rw [(sift_perm l m).length_eq]
    exact Nat.le_trans (List.length_filter_le _ _) hlen
  refine ⟨fun n v w' => ∃ (m : Nat) (Ls2 : List (Nat × List Value)), v.2.1 = (m : Int) ∧ n + m = s.2.length ∧ PIn Ls2 v.1 ((List.range m).flatMap fun (f : Nat) => l.filter (fun z => z == (f : Int))) ∧ SAt Q D G w0 w' s ((L0 ++ Ls) ++ Ls2), ⟨s.2.length, fun w3 h3 => ⟨0, [], rfl, rfl, .inl ⟨rfl, rfl, rfl⟩, by rw [List.append_nil]; exact S.ext h3⟩⟩, ?_⟩
  clear S
  rintro n ⟨sl, v, u⟩ w3 ⟨m, Ls2, e, hn, hR, S⟩
  dsimp only at e hR ⊢
  subst e
  refine ⟨rfl, rfl, S.ldA k0 (app_get (app_get ht)) rfl ⟨rfl, rfl, LdP.of _ S.rdF ?_⟩⟩
  refine brP_intro (fun c => ?_) (fun c => ?_)
  · have hm : m < s.2.length := by simpa using c
    have eadd : addI .i64 (m : Int) 1 = ((m + 1 : Nat) : Int) := by rw [addI_i64 (by omega) (by omega)]; omega
    rw [eadd]
    refine ⟨fun n1 v w' => ∃ (j : Nat) (Ls3 : List (Nat × List Value)), v.2.1 = (j : Int) ∧ n1 + j = l.length ∧ PIn Ls3 v.1 (((List.range m).flatMap fun (f : Nat) => l.filter (fun z => z == (f : Int))) ++ (l.take j).filter (fun z => z == (m : Int))) ∧ SAt Q D G w0 w' s ((L0 ++ Ls) ++ Ls3), ⟨l.length, fun w4 h4 => ⟨0, Ls2, rfl, rfl, by simpa using hR, S.ext h4⟩⟩, ?_⟩
    clear S
    rintro n1 ⟨sl1, v, u⟩ w4 ⟨j, Ls3, e, hn1, hR3, S⟩
    dsimp only at e hR3 ⊢
    subst e
    refine brP_intro (fun c => ?_) (fun c => ?_)
    · have hj : j < l.length := by simpa using c
      have eaj : addI .i64 (j : Int) 1 = ((j + 1 : Nat) : Int) := by rw [addI_i64 (by omega) (by omega)]; omega
      have hz := List.getElem?_eq_getElem hj
      obtain ⟨z, hze⟩ : ∃ z, z = l[j] := ⟨_, rfl⟩
      rw [← hze] at hz
      have hsl := (S.sl hP2 (fun y hy => List.mem_append_left _ (List.mem_append_right _ hy))) j z hz
      have htk : l.take (j + 1) = l.take j ++ [z] := by rw [List.take_add_one, hz]; rfl
      rw [eaj]
      refine ⟨⟨hsl.1, by omega, by omega⟩, LdP.of z hsl.2 (brP_intro (fun c2 => ?_) (fun c2 => ?_))⟩
      · have c3 : z = (m : Int) := by simpa using c2
        refine S.al fun b w5 S => fun w6 h6 => ?_
        have hb1 := hcut m
        have hb2 : ((l.take j).filter (fun z => z == (m : Int))).length ≤ 4369 := Nat.le_trans (List.length_filter_le _ _) (by rw [List.length_take]; omega)
        refine (S.ext h6).grow1 hR3 (by rw [List.length_append]; omega) fun Ls' sl' w7 hR' S => fun w8 h8 => ⟨n1 - 1, by omega, j + 1, Ls', rfl, by omega, ?_, S.ext h8⟩
        rw [htk, List.filter_append]
        have e1 : [z].filter (fun z => z == (m : Int)) = [(m : Int)] := by subst c3; simp
        rw [e1, ← List.append_assoc]
        exact hR'
      · have c3 : ¬ z = (m : Int) := by simpa using c2
        refine fun w8 h8 => ⟨n1 - 1, by omega, j + 1, Ls3, rfl, by omega, ?_, S.ext h8⟩
        rw [htk, List.filter_append]
        have e1 : [z].filter (fun z => z == (m : Int)) = [] := by simp [c3]
        rw [e1, List.append_nil]
        exact hR3
    · have hj : ¬ j < l.length := by simpa using c
      rw [List.take_of_length_le (by omega)] at hR3
      refine fun w8 h8 => ⟨n - 1, by omega, m + 1, Ls3, rfl, by omega, ?_, S.ext h8⟩
      rw [List.range_succ, List.flatMap_append]
      have e1 : ([m].flatMap fun (f : Nat) => l.filter (fun z => z == (f : Int))) = l.filter (fun z => z == (m : Int)) := by simp
      rw [e1]
      exact hR3
  · have hm : ¬ m < s.2.length := by simpa using c
    have hm : m = s.2.length := by omega
    subst hm
    refine S.en fun w4 S => k sl Ls2 w4 hR ?_
    rw [List.append_assoc] at S
    exact S.sub ((List.sublist_append_right _ _).append_left _)
theorem rdrop (S : SAt Q D G w0 w s L0) (k0 : Nat) (ht : L0[k0]? = some (bt, tcs Q o r gone)) {g : Gh} (hI : gone = false → Inv g s ∧ g r = some (o, 3, 0)) {K : Option Addr × Nat × Nat → World → Prop} (k : ∀ x Ls w2, PIn Ls x (allS2 s r gone) → SAt Q D G w0 w2 (dropS s r gone) (L0.set k0 (bt, tcs Q o r true) ++ Ls) → K x w2) :
    CaP Tryz.prog 44 (.el (.one .slice)) [.pointer (some ⟨bt, 0, none⟩)] w K := by
  refine S.go fun w1 S => rxFn_ok (C := N2) (ann := ydrop_vc_ann) (Eq.mpr (ydrop_vc _ w1 K) ?_)
  have hk0 : k0 < L0.length := (List.getElem?_eq_some_iff.1 ht).1
  refine S.rall k0 ht hI fun x Ls w2 hP S => ?_
  have hS : dropS s r gone = (s.1, (allS2 s r gone).foldl (fun ds f => chL ds f (turnG 5 0)) s.2) := by
    cases gone with
    | true => rfl
    | false => exact if_neg (by decide)
  rw [hS] at k
  have hlen : (allS2 s r gone).length ≤ 4369 := by
    cases gone with
    | true => exact Nat.zero_le _
    | false =>
      rw [show allS2 s r false = sortI (underL s.1 3 r) from if_neg (by decide), sortI_len]
      exact underL_len3 _ _
  generalize allS2 s r gone = l at *
  have hrow := hP.rowN
  obtain ⟨xp, xn, xc⟩ := x
  have hxl : xn = l.length := hrow.1
  subst hxl
  obtain ⟨ds0, hds0⟩ : ∃ ds0, ds0 = l.foldl (fun ds f => chL ds f (turnG 5 0)) s.2 := ⟨_, rfl⟩
  rw [← hds0] at k
  refine ⟨fun n v w' => ∃ (m : Nat) (ds : List DT), v.1 = (m : Int) ∧ n + m = l.length ∧ (l.drop m).foldl (fun ds f => chL ds f (turnG 5 0)) ds = ds0 ∧ SAt Q D G w0 w' (s.1, ds) (L0 ++ Ls), ⟨l.length, fun w3 h3 => ⟨0, s.2, rfl, rfl, hds0.symm, S.ext h3⟩⟩, ?_⟩
  clear S
  rintro n ⟨v, u⟩ w3 ⟨m, ds, e1, hnm, hd, S⟩
  dsimp only at e1 ⊢
  subst e1
  refine brP_intro (fun cc => ?_) (fun cc => ?_)
  · have hm : m < l.length := by simpa using cc
    have hf := List.getElem?_eq_getElem hm
    obtain ⟨f, hfe⟩ : ∃ f, f = l[m] := ⟨_, rfl⟩
    rw [← hfe] at hf
    rw [List.drop_eq_getElem_cons hm, ← hfe, List.foldl_cons] at hd
    have hsl := (S.sl hrow (fun y hy => List.mem_append_right _ hy)) m f hf
    refine ⟨rfl, rfl, S.ldA k0 (app_get ht) rfl ⟨⟨hsl.1, by omega, by omega⟩, LdP.of f hsl.2 (S.rturn f 5 0 fun w4 S => fun w5 h5 => ⟨n - 1, by omega, m + 1, _, ?_, by omega, hd, S.ext h5⟩)⟩⟩
    rw [addI_i64 (by omega) (by omega)]; omega
  · have hm : ¬ m < l.length := by simpa using cc
    rw [List.drop_of_length_le (by omega)] at hd
    have hd : ds = ds0 := hd
    subst hd
    refine ⟨rfl, rfl, S.stOneA k0 (app_get ht) rfl rfl fun w4 S => S.en fun w5 S => k (xp, l.length, xc) Ls w5 hP ?_⟩
    rw [List.set_append_left _ _ hk0] at S
    exact S
end SAt
end
end Go.Proofs.YtkldededdgpmbaaGreat
namespace Go.Proofs.YtkldededdgpmbaaGreat
set_option linter.unusedSimpArgs false
set_option linter.unusedVariables false
set_option maxRecDepth 100000
open Go.RX D
/-! ### The program plays as its document -/
/-- What one call makes of the tables of guest o. -/
def Stp (g : Gh) (s : WD) (o r : Int) (s' : WD) (gone' : Bool) : Prop := ∃ g', Inv g' s' ∧ Rt g' ∧ (∀ o2 r2, o2 ≠ o → g r2 = some (o2, 3, 0) → g' r2 = some (o2, 3, 0)) ∧ (gone' = false → g' r = some (o, 3, 0)) ∧ s'.1.length = s.1.length ∧ s'.2.length = s.2.length
theorem stp_refl {g : Gh} {s : WD} (I : Inv g s) (hR : Rt g) {o r : Int} {gone : Bool} (h : gone = false → g r = some (o, 3, 0)) : Stp g s o r s gone := ⟨g, I, hR, fun _ _ _ h => h, h, rfl, rfl⟩
theorem stp_chg {g g' : Gh} {s s' : WD} (hR : Rt g) {P : Int → Int → Prop} {o r : Int} (C : Chg P o g g' s s') (h : g r = some (o, 3, 0)) : Stp g s o r s' false := ⟨g', C.inv, hR.keep C.root, fun _ _ _ h => C.root.to h, fun _ => C.root.to h, C.len⟩
section
variable {g : Gh} {s : WD} {o r : Int} {gone : Bool}
theorem stp_map (I : Inv g s) (hR : Rt g) (h : gone = false → g r = some (o, 3, 0)) (p f t : Int) : Stp g s o r (mapS s o r gone p f t) gone := by
  cases gone with
  | true => rw [map_gone]; exact stp_refl I hR h
  | false => obtain ⟨g', C, _⟩ := I.mapC (h rfl) p f t; exact stp_chg hR C (h rfl)
theorem stp_lrg (I : Inv g s) (hR : Rt g) (h : gone = false → g r = some (o, 3, 0)) (p f t : Int) : Stp g s o r (lrgS s o r gone p f t) gone := by
  cases gone with
  | true => rw [lrg_gone]; exact stp_refl I hR h
  | false => obtain ⟨g', C, _⟩ := I.lrgC (h rfl) p f t; exact stp_chg hR C (h rfl)
theorem stp_unm (I : Inv g s) (hR : Rt g) (h : gone = false → g r = some (o, 3, 0)) (p : Int) : Stp g s o r (unmS s o r gone p) gone := by
  cases gone with
  | true => rw [(unm_gone _ _ _ _).2]; exact stp_refl I hR h
  | false => obtain ⟨g', C, _⟩ := I.unmC (h rfl) p; exact stp_chg hR C (h rfl)
theorem stp_pro (I : Inv g s) (hR : Rt g) (h : gone = false → g r = some (o, 3, 0)) (p t : Int) : Stp g s o r (proS s o r gone p t) gone := by
  cases gone with
  | true => rw [pro_gone]; exact stp_refl I hR h
  | false => obtain ⟨g', C, _⟩ := I.proC (h rfl) p t; exact stp_chg hR C (h rfl)
theorem stp_drop (I : Inv g s) (hR : Rt g) (h : gone = false → g r = some (o, 3, 0)) : Stp g s o r (dropS s r gone) true := by
  cases gone with
  | true => rw [dropS_gone]; exact stp_refl I hR (fun h => by cases h)
  | false =>
    obtain ⟨I', R', e1, e2, _⟩ := I.dropped hR (h rfl)
    exact ⟨delG g o, I', R', fun o2 r2 hn h2 => delG_some.2 ⟨h2, hn⟩, fun h => (by cases h), by rw [e1], e2⟩
end
section
variable {Q Q' : Sys} {D G : List Nat} {w0 w : World} {s s' : WD} {L0 : List (Nat × List Value)}
namespace Two
theorem al (T : Two Q Q' D G w0 w s s' L0) {cs : List Value} {e : TypeId} {K : Nat → World → Prop} (k : ∀ b w1, Two Q Q' D G w0 w1 s s' ((b, cs) :: L0) → K b w1) : AlP w ⟨cs⟩ e K := by
  obtain ⟨⟨ca, la, S⟩, T2⟩ := T
  exact S.al fun b w1 S => k b w1 ⟨⟨ca, la, S.perm (List.perm_middle (l₁ := [_, _, _, _]))⟩, T2⟩
theorem go (T : Two Q Q' D G w0 w s s' L0) {P : Program} {f : FuncId} {sh : Sh} {args : List Value} {K : sh.T → World → Prop} (k : ∀ w1, Two Q Q' D G w0 w1 s s' L0 → CallsR P f sh args w1 K) : CaP P f sh args w K := fun _ h => k _ (T.ext h)
theorem en (T : Two Q Q' D G w0 w s s' L0) {K : World → Prop} (k : ∀ w1, Two Q Q' D G w0 w1 s s' L0 → K w1) : EnP w K := fun _ h => k _ (T.ext h)
end Two
theorem par_rd (S : SAt Q D G w0 w s L0) {j b : Nat} {t0 t1 u0 u1 : Option Addr} (hb : L0[j]? = some (b, wcs2 Q Q' t0 t1 u0 u1)) (x : Int) :
    rdAt w (addP (addP (at0 b) 2) ((andI .i64 x 1).toNat * 1)) (.one .ptr) (if x % 2 = 0 then t0 else t1) ∧ rdAt w (addP (addP (at0 b) 6) ((andI .i64 x 1).toNat * 1)) (.one .ptr) (if x % 2 = 0 then u0 else u1) ∧
      0 ≤ andI .i64 x 1 ∧ andI .i64 x 1 < ((2 : Nat) : Int) := by
  rw [and_1, addP_B, addP_B]
  have hblk := S.get hb
  refine ⟨?_, ?_, by omega, by omega⟩
  · have h3 : x % 2 = 0 ∨ x % 2 = 1 := by omega
    rcases h3 with h3 | h3
    · rw [h3]; exact elAt_rd (el := .one .ptr) hblk rfl
    · rw [h3]; exact elAt_rd (el := .one .ptr) hblk rfl
  · have h3 : x % 2 = 0 ∨ x % 2 = 1 := by omega
    rw [addP_B]
    rcases h3 with h3 | h3
    · rw [h3]; exact elAt_rd (el := .one .ptr) hblk rfl
    · rw [h3]; exact elAt_rd (el := .one .ptr) hblk rfl
/-- Where a guest's tables lie: the program's and the document's. -/
structure Slot (Q Q' : Sys) (BL : List (Nat × List Value)) (g : Gh) (t u : Option Addr) (k k' bt bu : Nat) (o r : Int) (gone : Bool) : Prop where
  t : t = at0 bt
  u : u = at0 bu
  h : BL[k]? = some (bt, tcs Q o r gone)
  h' : BL[k']? = some (bu, tcs Q' o r gone)
  ne : k ≠ k'
  root : gone = false → g r = some (o, 3, 0)
  rr : 0 ≤ r ∧ r < 4096
abbrev setB (Q Q' : Sys) (BL : List (Nat × List Value)) (k k' bt bu : Nat) (o r : Int) (gone : Bool) : List (Nat × List Value) := (BL.set k (bt, tcs Q o r gone)).set k' (bu, tcs Q' o r gone)
theorem set_idn {L : List (Nat × List Value)} {k : Nat} {x : Nat × List Value} (h : L[k]? = some x) : L.set k x = L := List.ext_getElem? fun q => by
  by_cases e : k = q
  · subst e; rw [List.getElem?_set_self (List.getElem?_eq_some_iff.1 h).1, h]
  · rw [List.getElem?_set_ne e]
theorem Slot.same {BL : List (Nat × List Value)} {g : Gh} {t u : Option Addr} {k k' bt bu : Nat} {o r : Int} {gone : Bool} (Z : Slot Q Q' BL g t u k k' bt bu o r gone) : setB Q Q' BL k k' bt bu o r gone = BL := by
  unfold setB
  rw [set_idn Z.h, set_idn Z.h']
theorem Slot.set {BL : List (Nat × List Value)} {g g' : Gh} {t u : Option Addr} {k k' bt bu : Nat} {o r : Int} {gone gone' : Bool} (Z : Slot Q Q' BL g t u k k' bt bu o r gone) (h : gone' = false → g' r = some (o, 3, 0)) : Slot Q Q' (setB Q Q' BL k k' bt bu o r gone') g' t u k k' bt bu o r gone' where
  t := Z.t
  u := Z.u
  h := by
    unfold setB
    rw [List.getElem?_set_ne (fun e => Z.ne e.symm), List.getElem?_set_self (List.getElem?_eq_some_iff.1 Z.h).1]
  h' := by
    unfold setB
    rw [List.getElem?_set_self (by rw [List.length_set]; exact (List.getElem?_eq_some_iff.1 Z.h').1)]
  ne := Z.ne
  root := h
  rr := Z.rr
abbrev ocs (o1 o2 o3 o4 o5 : Int) : List Value := [.int .i64 o1, .int .i64 o2, .int .i64 o3, .int .i64 o4, .int .i64 o5]
theorem do_none (T : Two Q Q' D G w0 w s s' L0) {b : Nat} {t0 t1 u0 u1 : Option Addr} {j : Nat} (hb : L0[j]? = some (b, wcs2 Q Q' t0 t1 u0 u1)) (o1 o2 o3 o4 o5 : Int) (hn : (if o2 % 2 = 0 then t0 else t1) = none) {K : Bool → World → Prop} (k : ∀ w2, Two Q Q' D G w0 w2 s s' L0 → K true w2) :
    CaP Tryz.prog 10 (.el (.one .bool)) [.pointer (at0 b), .agg ⟨ocs o1 o2 o3 o4 o5⟩] w K := by
  refine T.go fun w1 T => rxFn_ok (C := N3) (ann := fun _ => []) (Eq.mpr (zdo_vc _ o1 o2 o3 o4 o5 w1 K) ?_)
  refine T.al fun bo w2 T => ?_
  obtain ⟨p1, p2, p3, p4⟩ := par_rd T.fst (j := j + 1) hb o2
  rw [hn] at p1
  exact ⟨rfl, T.fst.ldA 0 rfl rfl ⟨rfl, rfl, ⟨rfl, p3, p4⟩, LdP.of none p1 ⟨rfl, T.fst.ldA 0 rfl rfl ⟨rfl, rfl, ⟨rfl, p3, p4⟩, LdP.of _ p2 (brP_pos rfl (T.en fun w3 T => k w3 (T.sub (List.sublist_cons_self _ _))))⟩⟩⟩⟩
theorem ydo_at (T : Two Q Q' D G w0 w s s L0) {b : Nat} {t0 t1 u0 u1 : Option Addr} {j : Nat} (hb : L0[j]? = some (b, wcs2 Q Q' t0 t1 u0 u1)) (o1 o2 o3 o4 o5 : Int) {g : Gh} (I : Inv g s) (hR : Rt g) (few : Few Q s) {k1 k2 bt bu : Nat} {o r : Int} {gone : Bool}
    (Z : Slot Q Q' L0 g (if o2 % 2 = 0 then t0 else t1) (if o2 % 2 = 0 then u0 else u1) k1 k2 bt bu o r gone) {K : Bool → World → Prop} (k : ∀ s' gone' w2, Stp g s o r s' gone' → Two Q Q' D G w0 w2 s' s' (setB Q Q' L0 k1 k2 bt bu o r gone') → K true w2) :
    CaP Tryz.prog 10 (.el (.one .bool)) [.pointer (at0 b), .agg ⟨ocs o1 o2 o3 o4 o5⟩] w K := by
  refine T.go fun w1 T => rxFn_ok (C := N3) (ann := fun _ => []) (Eq.mpr (zdo_vc _ o1 o2 o3 o4 o5 w1 K) ?_)
  refine T.al fun bo w2 T => ?_
  obtain ⟨p1, p2, p3, p4⟩ := par_rd T.fst (j := j + 1) hb o2
  rw [Z.t] at p1
  rw [Z.u] at p2
  have same : ∀ {s' : WD} {w3 : World}, Stp g s o r s' gone → Two Q Q' D G w0 w3 s' s' ((bo, ocs o1 o2 o3 o4 o5) :: L0) → K true w3 := fun {s' w3} hS T => k s' gone w3 hS (by rw [Z.same]; exact T.sub (List.sublist_cons_self _ _))
  have hI : gone = false → Inv g s ∧ g r = some (o, 3, 0) := fun h => ⟨I, Z.root h⟩
  have hk1 : ∀ {ca la : Int} {s' : WD}, (Q'.L ca la s' ((bo, ocs o1 o2 o3 o4 o5) :: L0))[k1 + 5]? = some (bt, tcs Q o r gone) := fun {ca la s'} => by
    have := Z.h
    simpa [Sys.L] using this
  have hk2 : ∀ {ca la : Int} {s' : WD}, (Q.L ca la s' ((bo, ocs o1 o2 o3 o4 o5) :: L0))[k2 + 5]? = some (bu, tcs Q' o r gone) := fun {ca la s'} => by
    have := Z.h'
    simpa [Sys.L] using this
  -- behind both calls
  have fin : ∀ {s' : WD} {w3 : World} {x : Bool}, x = true → Stp g s o r s' gone → Two Q Q' D G w0 w3 s' s' ((bo, ocs o1 o2 o3 o4 o5) :: L0) → EnP w3 fun w4 => K x w4 := fun {s' w3 x} hx hS T => T.en fun w4 T => by
    rw [hx]; exact same hS T
  refine ⟨rfl, T.fst.ldA 0 rfl rfl ⟨rfl, rfl, ⟨rfl, p3, p4⟩, LdP.of _ p1 ⟨rfl, T.fst.ldA 0 rfl rfl ⟨rfl, rfl, ⟨rfl, p3, p4⟩, LdP.of _ p2 (brP_neg rfl ⟨rfl, T.fst.ldA 0 rfl rfl ?_⟩)⟩⟩⟩⟩
  refine brP_intro (fun _ => ?_) (fun _ => brP_intro (fun _ => ?_) (fun _ => brP_intro (fun _ => ?_) (fun _ => brP_intro (fun _ => ?_) (fun _ => brP_intro (fun _ => ?_) (fun _ => ?_)))))
  · refine ⟨rfl, T.fst.ldA 0 rfl rfl ⟨rfl, T.fst.ldA 0 rfl rfl ⟨rfl, T.fst.ldA 0 rfl rfl ⟨rfl, T.fst.ldA 0 rfl rfl ⟨rfl, T.fst.ldA 0 rfl rfl ⟨rfl, T.fst.ldA 0 rfl rfl ?_⟩⟩⟩⟩⟩⟩
    obtain ⟨⟨ca, la, S⟩, T2⟩ := T
    refine S.map (k1 + 5) hk1 _ _ _ fun w3 S => ?_
    have T := Two.swap ⟨⟨ca, la, S⟩, T2⟩
    have hbl := T.fst.get (i := 0) rfl
    obtain ⟨⟨ca, la, S⟩, T2⟩ := T
    rw [addP_B, addP_B, addP_B]
    refine ⟨elAt_rd hbl rfl, trivial, elAt_rd hbl rfl, trivial, elAt_rd hbl rfl, trivial, S.rmap (k2 + 5) hk2 hI _ _ _ fun w4 S => fin (by simp) (stp_map I hR Z.root _ _ _) (Two.swap ⟨⟨ca, la, S⟩, T2⟩)⟩
  · refine ⟨rfl, T.fst.ldA 0 rfl rfl ⟨rfl, T.fst.ldA 0 rfl rfl ⟨rfl, T.fst.ldA 0 rfl rfl ⟨rfl, T.fst.ldA 0 rfl rfl ⟨rfl, T.fst.ldA 0 rfl rfl ⟨rfl, T.fst.ldA 0 rfl rfl ?_⟩⟩⟩⟩⟩⟩
    obtain ⟨⟨ca, la, S⟩, T2⟩ := T
    refine S.large (k1 + 5) hk1 _ _ _ fun w3 S => ?_
    have T := Two.swap ⟨⟨ca, la, S⟩, T2⟩
    have hbl := T.fst.get (i := 0) rfl
    obtain ⟨⟨ca, la, S⟩, T2⟩ := T
    rw [addP_B, addP_B, addP_B]
    refine ⟨elAt_rd hbl rfl, trivial, elAt_rd hbl rfl, trivial, elAt_rd hbl rfl, trivial, S.rlarge (k2 + 5) hk2 hI _ _ _ fun w4 S => fin (by simp) (stp_lrg I hR Z.root _ _ _) (Two.swap ⟨⟨ca, la, S⟩, T2⟩)⟩
  · refine ⟨rfl, T.fst.ldA 0 rfl rfl ?_⟩
    obtain ⟨⟨ca, la, S⟩, T2⟩ := T
    refine S.unmap few (k1 + 5) hk1 Z.rr _ fun w3 S => ?_
    have T := Two.swap ⟨⟨ca, la, S⟩, T2⟩
    refine ⟨rfl, T.fst.ldA 0 rfl rfl ?_⟩
    obtain ⟨⟨ca, la, S⟩, T2⟩ := T
    exact S.runmap (k2 + 5) hk2 hI _ fun w4 S => fin (by simp) (stp_unm I hR Z.root _) (Two.swap ⟨⟨ca, la, S⟩, T2⟩)
  · refine ⟨rfl, T.fst.ldA 0 rfl rfl ⟨rfl, T.fst.ldA 0 rfl rfl ⟨rfl, T.fst.ldA 0 rfl rfl ⟨rfl, T.fst.ldA 0 rfl rfl ?_⟩⟩⟩⟩
    obtain ⟨⟨ca, la, S⟩, T2⟩ := T
    refine S.protect (k1 + 5) hk1 _ _ fun w3 S => ?_
    have T := Two.swap ⟨⟨ca, la, S⟩, T2⟩
    have hbl := T.fst.get (i := 0) rfl
    obtain ⟨⟨ca, la, S⟩, T2⟩ := T
    rw [addP_B, addP_B]
    refine ⟨elAt_rd hbl rfl, trivial, elAt_rd hbl rfl, trivial, S.rprotect (k2 + 5) hk2 hI _ _ fun w4 S => fin (by simp) (stp_pro I hR Z.root _ _) (Two.swap ⟨⟨ca, la, S⟩, T2⟩)⟩
  · obtain ⟨⟨ca, la, S⟩, T2⟩ := T
    refine S.drop (k1 + 5) hk1 Z.rr fun x rows w3 S hr3 => ?_
    have T : Two Q Q' D G w0 w3 (dropS s r gone) s (((bo, ocs o1 o2 o3 o4 o5) :: L0.set k1 (bt, tcs Q o r true)) ++ rows) := ⟨⟨ca, la, S⟩, T2⟩
    obtain ⟨⟨ca, la, S⟩, T2⟩ := T.swap
    refine S.rdrop (k2 + 5) ?_ hI fun y Ls w4 hP S => ?_
    · show (((L0.set k1 (bt, tcs Q o r true)) ++ rows))[k2]? = _
      rw [List.getElem?_append_left (by rw [List.length_set]; exact (List.getElem?_eq_some_iff.1 Z.h').1), List.getElem?_set_ne Z.ne]
      exact Z.h'
    have S : SAt Q' D G w0 w4 (dropS s r gone) (Q.L ca la (dropS s r gone) ((((bo, ocs o1 o2 o3 o4 o5) :: (L0.set k1 (bt, tcs Q o r true) ++ rows).set k2 (bu, tcs Q' o r true))) ++ Ls)) := S
    have T : Two Q Q' D G w0 w4 (dropS s r gone) (dropS s r gone) ((((bo, ocs o1 o2 o3 o4 o5) :: (L0.set k1 (bt, tcs Q o r true) ++ rows).set k2 (bu, tcs Q' o r true))) ++ Ls) := Two.swap ⟨⟨ca, la, S⟩, T2⟩
    rw [List.set_append_left _ _ (by rw [List.length_set]; exact (List.getElem?_eq_some_iff.1 Z.h').1)] at T
    obtain ⟨xp, xn, xc⟩ := x
    obtain ⟨yp, yn, yc⟩ := y
    have e1 : xn = (allS2 s r gone).length := hr3.1
    have e2 : yn = (allS2 s r gone).length := hP.rowN.1
    subst e1; subst e2
    have hlen : (allS2 s r gone).length ≤ 4369 := by
      cases gone with
      | true => exact Nat.zero_le _
      | false =>
        rw [show allS2 s r false = sortI (underL s.1 3 r) from if_neg (by decide), sortI_len]
        exact underL_len3 _ _
    refine ⟨_, ints_q (T.fst.sl hr3 (fun y hy => by simp [hy])) (T.fst.sl hP.rowN (fun y hy => by simp [hy])) (by omega), T.en fun w5 T => ?_⟩
    rw [show decide (allS2 s r gone = allS2 s r gone) = true by simp]
    refine k _ true w5 (stp_drop I hR Z.root) (T.sub ?_)
    exact ((List.sublist_append_left _ _).trans (List.sublist_cons_self _ _)).trans (List.sublist_append_left _ _)
  · exact fin rfl (stp_refl I hR Z.root) T
/-- Both systems hold the same words and frames. -/
theorem same_at (T : Two Q Q' D G w0 w s s L0) {j b : Nat} {t0 t1 u0 u1 : Option Addr} (hb : L0[j]? = some (b, wcs2 Q Q' t0 t1 u0 u1)) (few : Few Q s) {K : Bool → World → Prop} (k : ∀ w2, Two Q Q' D G w0 w2 s s L0 → K true w2) :
    CaP Tryz.prog 11 (.el (.one .bool)) [.pointer (at0 b)] w K := by
  refine T.go fun w1 T => rxFn_ok (C := N3) (ann := zsame_vc_ann) (Eq.mpr (zsame_vc _ w1 K) ?_)
  refine ⟨rfl, rfl, T.fst.ldA j hb rfl ⟨rfl, rfl, T.fst.ldA j hb rfl ⟨_, T.fst.mlen, rfl, rfl, T.fst.ldA j hb rfl ⟨rfl, rfl, LdP.of _ T.snd.rdL ?_⟩⟩⟩⟩
  have h0 := T.fst.pos
  obtain ⟨⟨ca, la, S⟩, T2⟩ := T
  refine S.words few 0 _ fun x rows w2 S hr => ?_
  rw [cut_all s.1 h0] at hr
  have T : Two Q Q' D G w0 w2 s s (L0 ++ rows) := ⟨⟨ca, la, S⟩, T2⟩
  clear S T2
  have hb' : (L0 ++ rows)[j]? = some (b, wcs2 Q Q' t0 t1 u0 u1) := SAt.app_get hb
  obtain ⟨xp, xn, xc⟩ := x
  have e1 : xn = s.1.length := hr.1
  subst e1
  have hw : Sl w2 eW (at0 Q'.bw) s.1 := by
    obtain ⟨h1, h2, h3, h4, ca, la, H⟩ := T.snd
    refine Sl.of_blk (H.get (i := 1) rfl) ?_
    rw [List.take_append_of_le_length (by rw [flat_length]; exact Nat.le_refl _), List.take_of_length_le (by rw [flat_length]; exact Nat.le_refl _)]
  have r4 : rdAt w2 (addP (at0 b) 4) (.one .ptr) (at0 Q'.bm) := by
    rw [addP_B]; exact elAt_rd (T.fst.get hb') rfl
  refine ⟨T.snd.rdL, trivial, trivial, r4, trivial, trivial, _, words_q (T.fst.sl hr (fun y hy => List.mem_append_right _ hy)) hw (by have := few.2; omega), ?_⟩
  rw [show decide (s.1 = s.1) = true by simp]
  refine brP_neg rfl ?_
  have T := T.sub (List.sublist_append_left L0 rows)
  have hle := T.fst.le
  refine ⟨fun n v w' => ∃ m : Nat, v.1 = (m : Int) ∧ n + m = s.2.length ∧ Two Q Q' D G w0 w' s s L0, ⟨s.2.length, fun w3 h3 => ⟨0, rfl, rfl, T.ext h3⟩⟩, ?_⟩
  clear T
  rintro n ⟨v, u⟩ w3 ⟨m, e, hn, T⟩
  dsimp only at e ⊢
  subst e
  refine ⟨rfl, rfl, T.fst.ldA j hb rfl ⟨rfl, rfl, LdP.of _ T.snd.rdF (brP_intro (fun c => ?_) (fun c => T.en fun w4 T => k w4 T))⟩⟩
  have hm : m < s.2.length := by simpa using c
  have hg := List.getElem?_eq_getElem hm
  obtain ⟨d, hd⟩ : ∃ d, d = s.2[m] := ⟨_, rfl⟩
  rw [← hd] at hg
  have hof : ofV s.2 (m : Int) = d := by
    unfold ofV
    rw [if_neg (by omega), List.getD_eq_getElem?_getD, show ((m : Nat) : Int).toNat = m from rfl, hg]
    rfl
  refine ⟨rfl, rfl, T.fst.ldA j hb rfl ⟨(ofV s.2 m, ofB s.2 m, ()), T.fst.ofq m, ?_⟩⟩
  rw [hof]
  refine T.al fun b2 w4 T => ?_
  obtain ⟨⟨ca, la, S⟩, T2⟩ := T
  refine S.stAll 4 rfl rfl rfl fun w5 S => ?_
  have T : Two Q Q' D G w0 w5 s s ((b2, _) :: L0) := ⟨⟨ca, la, S⟩, T2⟩
  refine ⟨rfl, T.fst.ldA 0 rfl rfl ⟨rfl, T.fst.ldA 0 rfl rfl ⟨rfl, T.fst.ldA 0 rfl rfl ⟨rfl, T.fst.ldA 0 rfl rfl ⟨rfl, rfl, T.fst.ldA (j + 1) hb rfl ⟨rfl, rfl, LdP.of _ T.snd.rdF ⟨⟨rfl, by omega, by show (m : Int) < ((s.2.length : Nat) : Int); omega⟩, LdP.of d ?_ (brP_neg ?_ fun w6 h6 => ⟨n - 1, by omega, m + 1, by rw [addI_i64 (by omega) (by omega)]; omega, by omega, (T.sub (List.sublist_cons_self _ _)).ext h6⟩)⟩⟩⟩⟩⟩⟩⟩
  · obtain ⟨h1, h2, h3, h4, ca, la, H⟩ := T.snd
    exact rd_flat (e := eD) (H.get (i := 2) rfl) hg
  · simp
end
end Go.Proofs.YtkldededdgpmbaaGreat
namespace Go.Proofs.YtkldededdgpmbaaGreat
set_option linter.unusedSimpArgs false
set_option linter.unusedVariables false
set_option maxRecDepth 100000
open Go.RX D
/-! ### The law: both play alike -/
section
variable {Q Q' : Sys} {w0 w : World} {s s' : WD} {L0 : List (Nat × List Value)}
theorem Two.opv (T : Two Q Q' [] [] w0 w s s' L0) {p : Option Addr} {xs : List (ScsT sOp)} (hx : Sl w0 (.agg sOp) p xs) {i : Nat} {m : Nat} (hm : m = xs.length) (hi : i < m) {t : TypeId} {K : Nat → World → Prop} (k : ∀ o1 o2 o3 o4 o5 : Int, ∀ b w1, Two Q Q' [] [] w0 w1 s s' ((b, ocs o1 o2 o3 o4 o5) :: L0) → K b w1) :
    (p.isSome = true ∧ 0 ≤ (i : Int) ∧ (i : Int) < (m : Int)) ∧ LdP w none (addP p ((i : Int).toNat * 5)) (.agg sOp) fun x =>
      AlP w ⟨[.int .i64 0, .int .i64 0, .int .i64 0, .int .i64 0, .int .i64 0]⟩ t fun b w2 => StP w2 (some ⟨b, 0, none⟩) [.int .i64 x.1, .int .i64 x.2.1, .int .i64 x.2.2.1, .int .i64 x.2.2.2.1, .int .i64 x.2.2.2.2.1] fun w3 => K b w3 := by
  have hi' : i < xs.length := by omega
  have hget : xs[i]? = some xs[i] := List.getElem?_eq_getElem hi'
  have h1 := (hx.ext T.fst.exts) i _ hget
  refine ⟨⟨h1.1, by omega, by omega⟩, LdP.of xs[i] h1.2 ?_⟩
  refine T.al fun b w2 T => ?_
  obtain ⟨⟨ca, la, S⟩, T2⟩ := T
  exact S.stAll 4 rfl rfl rfl fun w3 S => k xs[i].1 xs[i].2.1 xs[i].2.2.1 xs[i].2.2.2.1 xs[i].2.2.2.2.1 b w3 ⟨⟨ca, la, S⟩, T2⟩
theorem Slot.cons {BL : List (Nat × List Value)} {g : Gh} {t u : Option Addr} {k k' bt bu : Nat} {o r : Int} {gone : Bool} (Z : Slot Q Q' BL g t u k k' bt bu o r gone) (x : Nat × List Value) : Slot Q Q' (x :: BL) g t u (k + 1) (k' + 1) bt bu o r gone :=
  ⟨Z.t, Z.u, Z.h, Z.h', fun e => Z.ne (by omega), Z.root, Z.rr⟩
theorem begin_one {L : List (Nat × List Value)} (H : At [] w0 w L) (n : Nat) (hn : 1 ≤ n ∧ n ≤ 40) {K : Option Addr × Bool × Unit → World → Prop}
    (k : ∀ (Q Q' : Sys) (b b0 c0 : Nat) (t1 u1 : Option Addr) (rA rB : Int) (E : Bool → List (Nat × List Value)) (g0 : Gh) (s0 : WD) (w1 : World), (∀ s : WD, s.1.length = 16 * n → Few Q s) → (t1 = none ∨ ∃ b1 c1, t1 = at0 b1 ∧ u1 = at0 c1 ∧ ∀ z, E z = [(b1, tcs Q 2 rB z), (c1, tcs Q' 2 rB z)]) →
      (0 ≤ rA ∧ rA < 4096) → (0 ≤ rB ∧ rB < 4096) → Inv g0 s0 → Rt g0 → g0 rA = some (1, 3, 0) → (t1 ≠ none → g0 rB = some (2, 3, 0)) → s0.1.length = 16 * n → s0.2.length = n →
      Two Q Q' [] [] w0 w1 s0 s0 ((b, wcs2 Q Q' (at0 b0) t1 (at0 c0) u1) :: (b0, tcs Q 1 rA false) :: (c0, tcs Q' 1 rA false) :: E false) → K (at0 b, true, ()) w1) :
    CaP Tryz.prog 9 (.tup [.one .ptr, .one .bool]) [.int .i64 (n : Int)] w K := by
  have few2 : ∀ {Q : Sys} {s1 s : WD}, s1.1.length = 16 * n → Few Q s1 → s.1.length = 16 * n → Few Q s := fun {Q s1 s} l h h' => by
    obtain ⟨f1, f2⟩ := h
    exact ⟨by omega, by omega⟩
  refine begin_at H n ⟨hn.1, by omega⟩ (fun h1 Q Q' b b0 c0 c1 w1 few T => ?_) (fun h2 Q Q' b b0 b1 c0 c1 w1 few T => ?_)
  · obtain ⟨_, p2, p3, I, l1, l2, _⟩ := stA_ok (n := n) ⟨hn.1, by omega⟩
    exact k Q Q' b b0 c0 none (at0 c1) (rtA n) 0 (fun _ => []) _ _ w1 (fun s h => few2 l1 few h) (.inl rfl) (by omega) (by decide) I (fun f o x h => by
      unfold setG at h
      split at h
      · cases h; rfl
      · cases h) (setG_self _ _ _) (fun h => absurd rfl h) l1 l2 (T.sub (.cons_cons _ (.cons_cons _ (.cons_cons _ (List.nil_sublist _)))))
  · obtain ⟨_, hB, hA, hne, I, l1, l2, _⟩ := stB_ok (n := n) ⟨h2, by omega⟩
    obtain ⟨g0, g1⟩ := ghB_root n hne
    refine k Q Q' b b0 c0 (at0 b1) (at0 c1) (rtA n) (rtB n) (fun z => [(b1, tcs Q 2 (rtB n) z), (c1, tcs Q' 2 (rtB n) z)]) _ _ w1 (fun s h => few2 l1 few h) (.inr ⟨b1, c1, rfl, rfl, fun _ => rfl⟩) (by omega) (by omega) I (ghB_rt n) g0 (fun _ => g1) l1 l2 ?_
    have T := T.sub (L1 := [(b, wcs2 Q Q' (at0 b0) (at0 b1) (at0 c0) (at0 c1)), (b0, tcs Q 1 (rtA n) false), (b1, tcs Q 2 (rtB n) false), (c0, tcs Q' 1 (rtA n) false), (c1, tcs Q' 2 (rtB n) false)]) (.cons_cons _ (.cons_cons _ (.cons_cons _ (.cons_cons _ (.cons_cons _ (List.nil_sublist _))))))
    exact T.perm (.cons _ (.cons _ (.swap _ _ _)))
end
theorem plays_inv {w : World} {n m : Nat} : ∀ (Q Q' : Sys) (b b0 c0 : Nat) (t1 u1 : Option Addr) (rA rB : Int) (E : Bool → List (Nat × List Value)) (g0 : Gh) (s0 : WD) (w1 : World), (∀ s : WD, s.1.length = 16 * n → Few Q s) → (t1 = none ∨ ∃ b1 c1, t1 = at0 b1 ∧ u1 = at0 c1 ∧ ∀ z, E z = [(b1, tcs Q 2 rB z), (c1, tcs Q' 2 rB z)]) →
      (0 ≤ rA ∧ rA < 4096) → (0 ≤ rB ∧ rB < 4096) → Inv g0 s0 → Rt g0 → g0 rA = some (1, 3, 0) → (t1 ≠ none → g0 rB = some (2, 3, 0)) → s0.1.length = 16 * n → s0.2.length = n →
      Two Q Q' [] [] w w1 s0 s0 ((b, wcs2 Q Q' (at0 b0) t1 (at0 c0) u1) :: (b0, tcs Q 1 rA false) :: (c0, tcs Q' 1 rA false) :: E false) →
      ∃ (I : Nat → Int × Unit → World → Prop), (∃ (n : Nat), ∀ (w2 : World), Ext w1 w2 → I n (0, ()) w2) ∧ ∀ (q : Nat) (v : Int × Unit) (w3 : World), I q v w3 → ∃ (i : Nat) (g : Gh) (s : WD) (BL : List (Nat × List Value)), v.1 = (i : Int) ∧ q + i = m ∧ Inv g s ∧ Rt g ∧ Few Q s ∧ BL[0]? = some (b, wcs2 Q Q' (at0 b0) t1 (at0 c0) u1) ∧ Two Q Q' [] [] w w3 s s BL ∧
        (∀ s' w4, i < m ∧ i < 40 → s' = s → Two Q Q' [] [] w w4 s' s' BL → ∀ w5, Ext w4 w5 → ∃ n', n' < q ∧ I n' (addI .i64 (i : Int) 1, ()) w5) ∧
        ∀ o2 : Int, (if o2 % 2 = 0 then at0 b0 else t1) = none ∨ ∃ k1 k2 bt bu o r gone, Slot Q Q' BL g (if o2 % 2 = 0 then at0 b0 else t1) (if o2 % 2 = 0 then at0 c0 else u1) k1 k2 bt bu o r gone ∧
          ∀ s' gone' w4, i < m ∧ i < 40 → Stp g s o r s' gone' → Two Q Q' [] [] w w4 s' s' (setB Q Q' BL k1 k2 bt bu o r gone') → (setB Q Q' BL k1 k2 bt bu o r gone')[0]? = some (b, wcs2 Q Q' (at0 b0) t1 (at0 c0) u1) ∧ Few Q s' ∧ ∀ w5, Ext w4 w5 → ∃ n', n' < q ∧ I n' (addI .i64 (i : Int) 1, ()) w5 := by
  intro Q Q' b b0 c0 t1 u1 rA rB E g0 s0 w1 few hE hA hB I0 R0 gA gB l1 l2 T
  refine ⟨fun q v w' => ∃ (i : Nat) (g : Gh) (s : WD) (z0 z1 : Bool), v.1 = (i : Int) ∧ q + i = m ∧ Inv g s ∧ Rt g ∧ (z0 = false → g rA = some (1, 3, 0)) ∧ (t1 ≠ none → z1 = false → g rB = some (2, 3, 0)) ∧ s.1.length = 16 * n ∧ s.2.length = n ∧
    Two Q Q' [] [] w w' s s ((b, wcs2 Q Q' (at0 b0) t1 (at0 c0) u1) :: (b0, tcs Q 1 rA z0) :: (c0, tcs Q' 1 rA z0) :: E z1), ⟨m, fun w2 h2 => ⟨0, g0, s0, false, false, rfl, rfl, I0, R0, fun _ => gA, fun h _ => gB h, l1, l2, T.ext h2⟩⟩, ?_⟩
  clear T I0 R0 gA gB l1 l2
  rintro q ⟨v, u⟩ w3 ⟨i, g, s, z0, z1, e, hq, I, hR, gA, gB, l1, l2, T⟩
  refine ⟨i, g, s, _, e, hq, I, hR, few s l1, rfl, T, ?_, fun o2 => ?_⟩
  · rintro s' w4 hi rfl T w5 h5
    exact ⟨q - 1, by omega, i + 1, g, s', z0, z1, by rw [addI_i64 (by omega) (by omega)]; omega, by omega, I, hR, gA, gB, l1, l2, T.ext h5⟩
  · by_cases h3 : o2 % 2 = 0
    · rw [if_pos h3, if_pos h3]
      refine .inr ⟨1, 2, b0, c0, 1, rA, z0, ⟨rfl, rfl, rfl, rfl, by decide, gA, hA⟩, ?_⟩
      rintro s' gone' w4 hi ⟨g', I', R', ho, hr, k1, k2⟩ T
      refine ⟨rfl, few s' (k1.trans l1), fun w5 h5 => ⟨q - 1, by omega, i + 1, g', s', gone', z1, by rw [addI_i64 (by omega) (by omega)]; omega, by omega, I', R', hr, fun hn hz => ho 2 rB (by decide) (gB hn hz), k1.trans l1, k2.trans l2, T.ext h5⟩⟩
    · rw [if_neg h3, if_neg h3]
      rcases hE with hE | ⟨b1, c1, e1, e2, hE⟩
      · exact .inl hE
      · have hn1 : t1 ≠ none := by rw [e1]; exact fun h => by cases h
        refine .inr ⟨3, 4, b1, c1, 2, rB, z1, ⟨e1, e2, ?_, ?_, by decide, gB hn1, hB⟩, ?_⟩
        · rw [hE]; rfl
        · rw [hE]; rfl
        · rintro s' gone' w4 hi ⟨g', I', R', ho, hr, k1, k2⟩ T
          refine ⟨rfl, few s' (k1.trans l1), fun w5 h5 => ⟨q - 1, by omega, i + 1, g', s', z0, gone', by rw [addI_i64 (by omega) (by omega)]; omega, by omega, I', R', fun hz => ho 1 rA (by decide) (gA hz), fun _ => hr, k1.trans l1, k2.trans l2, ?_⟩⟩
          rw [hE] at T ⊢
          exact T.ext h5
theorem lplays_row (y : Int) (hy : (Lit.int .u8 y).wf = true) (p : Option Addr) (m c : Nat) (xs : List (ScsT sOp)) (hm : m = xs.length) (hmx : m ≤ maxLen) {w : World} (hx : Sl w (.agg sOp) p xs) (hxw : ∀ x ∈ xs, okScs sOp x) :
    CallsR Tryz.prog 3 (.el (.one .bool)) [.int .u8 y, .slice p m c] w (fun b w' => b = true ∧ Ext w w') := by
  refine rxFn_ok (C := N3) (ann := zplays_vc_ann) (Eq.mpr (zplays_vc y p m c w _) ?_)
  have hy := rng8 hy
  have e0 : addI .i64 1 (remI (convI .i64 y) 40) = ((1 + (y % 40).toNat : Nat) : Int) := by
    rw [cv_id (x := y) (by omega) (by omega), rm_id hy.1, addI_i64 (by omega) (by omega)]
    omega
  rw [e0]
  obtain ⟨n, hn⟩ : ∃ n, n = 1 + (y % 40).toNat := ⟨_, rfl⟩
  rw [← hn]
  have hn : 1 ≤ n ∧ n ≤ 40 := by omega
  refine begin_one (At.start [] w) n hn fun Q Q' b b0 c0 t1 u1 rA rB E g0 s0 w1 few hE hA hB I0 R0 gA gB l1 l2 T => brP_neg rfl ?_
  obtain ⟨Inn, hst, hstep⟩ := plays_inv (w := w) (n := n) (m := m) Q Q' b b0 c0 t1 u1 rA rB E g0 s0 w1 few hE hA hB I0 R0 gA gB l1 l2 T
  refine ⟨Inn, hst, fun q => ?_⟩
  clear hst T I0 R0 gA gB l1 l2 few hE hA hB
  rintro ⟨v, u⟩ w3 hin
  obtain ⟨i, g, s, BL, e, hq, I, hR, few, hb, T, hnext, hpar⟩ := hstep q (v, u) w3 hin
  clear hstep hin
  dsimp only at e ⊢
  subst e
  refine brP_intro (fun cc => ?_) (fun cc => fin_npt T.fst.exts)
  have hi : i < m ∧ i < 40 := by
    simp only [Bool.and_eq_true, decide_eq_true_eq] at cc
    omega
  refine T.opv hx hm hi.1 fun o1 o2 o3 o4 o5 bo w4 T => T.fst.ld 0 rfl rfl ?_
  have hb1 : ∀ {BL : List (Nat × List Value)} {x y : Nat × List Value}, BL[0]? = some y → (x :: BL)[1]? = some y := fun h => h
  rcases hpar o2 with hno | ⟨k1, k2, bt, bu, o, r, gone, Z, hpar⟩
  · refine do_none T (hb1 hb) o1 o2 o3 o4 o5 hno fun w5 T => brP_neg rfl (same_at T (hb1 hb) few fun w6 T => brP_neg rfl ?_)
    obtain ⟨p1, p2, p3, p4⟩ := par_rd T.fst (hb1 hb) o2
    rw [hno] at p1
    exact ⟨rfl, T.fst.ldA 0 rfl rfl ⟨rfl, rfl, ⟨rfl, p3, p4⟩, LdP.of none p1 ⟨rfl, T.fst.ldA 0 rfl rfl ⟨rfl, rfl, ⟨rfl, p3, p4⟩, LdP.of _ p2 (brP_pos rfl (hnext s w6 hi rfl (T.sub (List.sublist_cons_self _ _))))⟩⟩⟩⟩
  · refine ydo_at T (hb1 hb) o1 o2 o3 o4 o5 I hR few (Z.cons _) fun s' gone' w5 hS T => brP_neg rfl ?_
    have T : Two Q Q' [] [] w w5 s' s' ((bo, ocs o1 o2 o3 o4 o5) :: setB Q Q' BL k1 k2 bt bu o r gone') := T
    obtain ⟨hb', few', hnext'⟩ := hpar s' gone' w5 hi hS (T.sub (List.sublist_cons_self _ _))
    obtain ⟨g', I', R', _, hr', _, _⟩ := id hS
    refine same_at T (hb1 hb') few' fun w6 T => brP_neg rfl ?_
    have Z' := Z.set hr'
    obtain ⟨p1, p2, p3, p4⟩ := par_rd T.fst (hb1 hb') o2
    rw [Z'.t] at p1
    rw [Z'.u] at p2
    have hI : gone' = false → Inv g' s' ∧ g' r = some (o, 3, 0) := fun h => ⟨I', hr' h⟩
    have hk1 : ∀ {ca la : Int}, (Q'.L ca la s' ((bo, ocs o1 o2 o3 o4 o5) :: setB Q Q' BL k1 k2 bt bu o r gone'))[k1 + 5]? = some (bt, tcs Q o r gone') := fun {ca la} => by
      have := Z'.h
      simpa [Sys.L, setB] using this
    have hk2 : ∀ {ca la : Int}, (Q.L ca la s' ((bo, ocs o1 o2 o3 o4 o5) :: setB Q Q' BL k1 k2 bt bu o r gone'))[k2 + 5]? = some (bu, tcs Q' o r gone') := fun {ca la} => by
      have := Z'.h'
      simpa [Sys.L, setB] using this
    refine ⟨rfl, T.fst.ldA 0 rfl rfl ⟨rfl, rfl, ⟨rfl, p3, p4⟩, LdP.of _ p1 ⟨rfl, T.fst.ldA 0 rfl rfl ⟨rfl, rfl, ⟨rfl, p3, p4⟩, LdP.of _ p2 (brP_neg rfl ⟨rfl, T.fst.ldA 0 rfl rfl ?_⟩)⟩⟩⟩⟩
    obtain ⟨⟨ca, la, S⟩, T2⟩ := T
    refine S.query (k1 + 5) hk1 _ fun w7 S => ?_
    have T := Two.swap ⟨⟨ca, la, S⟩, T2⟩
    refine ⟨rfl, T.fst.ldA 0 rfl rfl ?_⟩
    obtain ⟨⟨ca, la, S⟩, T2⟩ := T
    refine S.rquery (k2 + 5) hk2 _ (fun h hp => (hI h).1.way_in (hI h).2 hp) fun w8 S => brP_neg (by simp) ?_
    obtain ⟨⟨ca, la, S⟩, T2⟩ := Two.swap ⟨⟨ca, la, S⟩, T2⟩
    refine S.all (k1 + 5) hk1 Z'.rr fun x rows w9 S hr3 => ?_
    have T : Two Q Q' [] [] w w9 s' s' (((bo, ocs o1 o2 o3 o4 o5) :: setB Q Q' BL k1 k2 bt bu o r gone') ++ rows) := ⟨⟨ca, la, S⟩, T2⟩
    obtain ⟨⟨ca, la, S⟩, T2⟩ := T.swap
    refine S.rall (k2 + 5) (SAt.app_get (Ls := rows) (hk2 (ca := ca) (la := la))) hI fun y Ls w10 hP S => ?_
    have T : Two Q Q' [] [] w w10 s' s' ((((bo, ocs o1 o2 o3 o4 o5) :: setB Q Q' BL k1 k2 bt bu o r gone') ++ rows) ++ Ls) := Two.swap ⟨⟨ca, la, S⟩, T2⟩
    obtain ⟨xp, xn, xc⟩ := x
    obtain ⟨yp, yn, yc⟩ := y
    have e1 : xn = (allS2 s' r gone').length := hr3.1
    have e2 : yn = (allS2 s' r gone').length := hP.rowN.1
    subst e1; subst e2
    have hlen : (allS2 s' r gone').length ≤ 4369 := by
      cases gone' with
      | true => exact Nat.zero_le _
      | false =>
        rw [show allS2 s' r false = sortI (underL s'.1 3 r) from if_neg (by decide), sortI_len]
        exact underL_len3 _ _
    refine ⟨_, ints_q (T.fst.sl hr3 (fun y hy => by simp [hy])) (T.fst.sl hP.rowN (fun y hy => by simp [hy])) (by omega), ?_⟩
    rw [show decide (allS2 s' r gone' = allS2 s' r gone') = true by simp]
    have hz : ((setB Q Q' BL k1 k2 bt bu o r gone' ++ rows) ++ Ls)[k1]? = some (bt, tcs Q o r gone') := SAt.app_get (SAt.app_get Z'.h)
    have hz' : ((setB Q Q' BL k1 k2 bt bu o r gone' ++ rows) ++ Ls)[k2]? = some (bu, tcs Q' o r gone') := SAt.app_get (SAt.app_get Z'.h')
    refine ⟨rootI r gone', fun _ => T.fst.root (k1 + 1) hz, rootI r gone', fun _ => T.snd.rroot (k2 + 1) hz', brP_neg (by simp) ?_⟩
    have T3 := T.sub (((List.sublist_cons_self _ _).trans (List.sublist_append_left _ rows)).trans (List.sublist_append_left _ Ls))
    exact (hpar s' gone' w10 hi hS T3).2.2
end Go.Proofs.YtkldededdgpmbaaGreat
