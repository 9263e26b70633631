import Derived.Test.YtffnfcokgemgjaaRx
/-! One more element; where the row lies then. -/
namespace Go.RX
set_option linter.unusedSimpArgs false
set_option linter.unusedVariables false
set_option maxRecDepth 100000
theorem own_push_sep {w0 w wA w1 : World} {e : El} {s : Option Addr × Nat × Nat} {xs : List e.T} {x : e.T} {t : TypeId} {bytes : Nat} {z : Array Value} {R : Option Addr × Nat × Nat → World → Prop}
    (h : Own w0 w e s xs) (h0 : Ext w0 w) (hp : plainE e = true) (k1 : Ext w wA) (k2 : Ext (wA.alloc (.cells ⟨cellsOf e x⟩ t)) w1) (hz : z.size = stride e) (hb : (xs.length + 1) * bytes ≤ 140737488355328)
    (k : ∀ s' w', Own w0 w' e s' (xs ++ [x]) → Ext w0 w' → (∀ b, b < w.heap.size → (∀ a, s.1 = some a → b ≠ a.block) → w'.heap[b]? = w.heap[b]?) → w.heap.size ≤ w'.heap.size →
      (∀ a, s'.1 = some a → s.1 = some a ∨ w.heap.size ≤ a.block) → R s' w') :
    apR w1 t (stride e) bytes z s (some ⟨wA.heap.size, 0, none⟩, 1, 1) R := by
  have kk : Ext w w1 := (k1.trans (Ext.alloc wA _)).trans k2
  have hblk : Blk w1 wA.heap.size (cellsOf e x) := (Blk.new wA _ _).ext k2
  refine own_append (ys := [x]) (h.ext kk) (h0.trans kk) hp rfl ?_ hz hb fun s' w' ho he hf hsz hd => k s' w' ho he (fun b hb' hne => ?_) (Nat.le_trans kk.size hsz) (fun a ha => ?_)
  · refine hblk.rdN (flat_length e [x]) fun i hi => ?_
    simp [flat]
  · rw [hf b (Nat.lt_of_lt_of_le hb' kk.size) hne, kk.block hb']
  · rcases hd with ⟨a', h1, h2⟩ | ⟨a', h1, h2⟩ | h1
    · rw [h1] at ha; cases ha; exact .inl h2
    · rw [h1] at ha; cases ha; exact .inr (Nat.le_trans kk.size h2)
    · have l1 := ho.1
      have l2 := h.1
      rw [h1] at l1
      simp only [List.length_append, List.length_cons, List.length_nil] at l1
      omega
end Go.RX
