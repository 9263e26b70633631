import Derived.Test.YtmdcalknhbhlcaaItr
namespace Go.Proofs.Ytmdcalknhbhlcaa
open Go.RX
noncomputable def eCount : Entry Try.prog where
  f := 19
  fn l := match l with
    | [.int .u64 v] => some (U (B v) = v, .int .i64 ((onesL (B v)).length : Nat))
    | _ => none
  ok args pre v h hp w := by
    split at h
    · rename_i v
      cases h
      have := entry_of (count_ok (B v) w)
      rw [hp] at this; exact this
    · cases h
noncomputable def C4 : Cfg Try.prog := { C0 with tab := [eFits, eIs, eBit, eOne, eMask, eRMask, eRGet, eRPut, eGet, ePut, eCount] }
theorem known_vc (w : World) (Post : Bool → World → Prop) : (rxFn C4 (fun _ => []) 20 [] w Post) = (
 (U (B 0) = 0 ∧ U (B 31) = 31) ∧
  ((U (putB (B 0) 4 4 (B 31)) == 240) = true → U (B 240) = 240) ∧
   ((U (putB (B 0) 4 4 (B 31)) == 240 && U (getB (B 240) 4 4) == 15) = true → True) ∧
    ((U (putB (B 0) 4 4 (B 31)) == 240 && U (getB (B 240) 4 4) == 15 && U (maskB 62 2) == 13835058055282163712) = true →
      True) ∧
     ((U (putB (B 0) 4 4 (B 31)) == 240 && U (getB (B 240) 4 4) == 15 && U (maskB 62 2) == 13835058055282163712 &&
         U (maskB 62 3) == 0) =
        true →
       U (B 11) = 11) ∧
      brP
       (U (putB (B 0) 4 4 (B 31)) == 240 && U (getB (B 240) 4 4) == 15 && U (maskB 62 2) == 13835058055282163712 &&
         U (maskB 62 3) == 0 &&
        (↑(onesL (B 11)).length : Int) == 3)
       (∀ (w1 : World),
        Ext w w1 →
         CallsR Try.prog 18 (Sh.el (El.one Sc.slice)) [Value.int IntKind.u64 10] w1
          fun (x : Option Addr × Nat × Nat) (w2 : World) =>
          ∀ (w1 : World),
           Ext w2 w1 →
            ∀ (w1_1 : World),
             Ext (w1.alloc (Obj.cells { toList := [Value.int IntKind.i64 1, Value.int IntKind.i64 3] } 3)) w1_1 →
              CallsR Try.prog 17 (Sh.el (El.one Sc.bool))
               [Value.slice x.fst x.snd.fst x.snd.snd, Value.slice (some { block := w1.heap.size, off := 0 }) 2 2] w1_1
               fun (x : Bool) (w2 : World) =>
               brP x
                (∀ (w1 : World),
                 Ext w2 w1 →
                  ∀ (w1_2 : World),
                   Ext
                     (w1.alloc
                      (Obj.cells
                       {
                        toList :=
                         [Value.int IntKind.u64 5, Value.int IntKind.i64 3, Value.int IntKind.u64 1,
                          Value.int IntKind.i64 1] }
                       48))
                     w1_2 →
                    CallsR Try.prog 24 (Sh.el (El.one (Sc.int IntKind.u64)))
                     [Value.slice (some { block := w1.heap.size, off := 0 }) 2 2] w1_2 fun (x : Int) (w2 : World) =>
                     brP (x == 13)
                      (∀ (w1 : World),
                       Ext w2 w1 →
                        ∀ (w1_3 : World),
                         Ext (w1.alloc (Obj.cells { toList := [Value.int IntKind.i64 3, Value.int IntKind.i64 1] } 3))
                           w1_3 →
                          CallsR Try.prog 22 (Sh.el (El.one Sc.slice))
                           [Value.int IntKind.u64 13, Value.slice (some { block := w1.heap.size, off := 0 }) 2 2] w1_3
                           fun (x : Option Addr × Nat × Nat) (w2 : World) =>
                           ∀ (w1 : World),
                            Ext w2 w1 →
                             ∀ (w1_4 : World),
                              Ext
                                (w1.alloc
                                 (Obj.cells { toList := [Value.int IntKind.u64 5, Value.int IntKind.u64 1] } 22))
                                w1_4 →
                               CallsR Try.prog 21 (Sh.el (El.one Sc.bool))
                                [Value.slice x.fst x.snd.fst x.snd.snd,
                                 Value.slice (some { block := w1.heap.size, off := 0 }) 2 2]
                                w1_4 fun (x : Bool) (w2 : World) =>
                                brP x
                                 (∀ (w1 : World),
                                  Ext w2 w1 →
                                   ∀ (w1_5 : World),
                                    Ext
                                      (w1.alloc
                                       (Obj.cells { toList := [Value.int IntKind.i64 64, Value.int IntKind.i64 1] } 3))
                                      w1_5 →
                                     CallsR Try.prog 22 (Sh.el (El.one Sc.slice))
                                      [Value.int IntKind.u64 1,
                                       Value.slice (some { block := w1.heap.size, off := 0 }) 2 2]
                                      w1_5 fun (x : Option Addr × Nat × Nat) (w2 : World) =>
                                      ∀ (w1 : World), Ext w2 w1 → Post ((↑x.snd.fst : Int) == 0) w1)
                                 (∀ (w1 : World), Ext w2 w1 → Post false w1))
                      (∀ (w1 : World), Ext w2 w1 → Post false w1))
                (∀ (w1 : World), Ext w2 w1 → Post false w1))
       (∀ (w1 : World), Ext w w1 → Post false w1)) := by kernel_rfl
theorem tt_intro {b : Bool} {p q : Prop} (h : b = true) (k : p) : brP b p q := by subst h; exact k
theorem known_ok (w : World) : CallsR Try.prog 20 (.el (.one .bool)) [] w (fun b w' => b = true ∧ Ext w w') := by
  refine rxFn_ok (C := C4) (ann := fun _ => []) (Eq.mpr (known_vc w _) ?_)
  refine ⟨⟨by decide +kernel, by decide +kernel⟩, fun _ => by decide +kernel, fun _ => trivial, fun _ => trivial, fun _ => by decide +kernel, tt_intro (by decide +kernel) fun w1 h1 => ?_⟩
  have e10 : U (B 10) = 10 := by decide +kernel
  have e13 : U (B 13) = 13 := by decide +kernel
  have e1 : U (B 1) = 1 := by decide +kernel
  have c1 := onesf_ok (B 10) w1
  rw [e10] at c1
  refine c1.mono ?_
  rintro ⟨p, n, c⟩ w2 ⟨ho, h2⟩ w3 h3 w4 h4
  dsimp only
  have sl1 : Sl w4 eI (some ⟨w3.heap.size, 0, none⟩) [1, 3] := Sl.of_blk ((Blk.new w3 _ _).ext h4) rfl
  have l1 : n = (embN (onesL (B 10))).length := ho.len
  have l2 : (embN (onesL (B 10))).length = 2 := by decide +kernel
  refine (ints_ok (((ho.sl.ext h3).ext (Ext.alloc _ _)).ext h4) l1 sl1 rfl (by omega)).mono ?_
  rintro b w5 ⟨hb, h5⟩
  have b1 : b = true := by rw [hb]; decide +kernel
  have E5 : Ext w w5 := ((((h1.trans h2).trans h3).allocd _).trans h4).trans h5
  refine tt_intro b1 fun w6 h6 w7 h7 => ?_
  have sl2 : Sl w7 eP (some ⟨w6.heap.size, 0, none⟩) (embP [(B 5, 3), (B 1, 1)]) := Sl.of_blk ((Blk.new w6 _ _).ext h7) (by rfl)
  refine (pack_ok (c := 2) sl2 rfl (by decide)).mono ?_
  rintro x w8 ⟨hx, h8⟩
  have E8 : Ext w w8 := ((E5.trans h6).allocd _).trans (h7.trans h8)
  refine tt_intro (by rw [hx]; decide +kernel) fun w9 h9 w10 h10 => ?_
  have sl3 : Sl w10 eI (some ⟨w9.heap.size, 0, none⟩) [3, 1] := Sl.of_blk ((Blk.new w9 _ _).ext h10) rfl
  have c2 := split_ok (v := B 13) (c := 2) sl3 rfl (by decide)
  rw [e13] at c2
  refine c2.mono ?_
  rintro ⟨p2, n2, m2⟩ w11 ⟨ho2, h11⟩ w12 h12 w13 h13
  dsimp only
  have sl4 : Sl w13 eU (some ⟨w12.heap.size, 0, none⟩) [5, 1] := Sl.of_blk ((Blk.new w12 _ _).ext h13) rfl
  have l3 : n2 = (embU ((splitB (B 13) 0 [3, 1]).getD [])).length := ho2.len
  have l4 : (embU ((splitB (B 13) 0 [3, 1]).getD [])).length = 2 := by decide +kernel
  refine (words_ok (((ho2.sl.ext h12).ext (Ext.alloc _ _)).ext h13) l3 sl4 rfl (by omega)).mono ?_
  rintro b2 w14 ⟨hb2, h14⟩
  have b3 : b2 = true := by rw [hb2]; decide +kernel
  have E14 : Ext w w14 := ((((((E8.trans h9).allocd _).trans h10).trans h11).trans h12).allocd _).trans (h13.trans h14)
  refine tt_intro b3 fun w15 h15 w16 h16 => ?_
  have sl5 : Sl w16 eI (some ⟨w15.heap.size, 0, none⟩) [64, 1] := Sl.of_blk ((Blk.new w15 _ _).ext h16) rfl
  have c3 := split_ok (v := B 1) (c := 2) sl5 rfl (by decide)
  rw [e1] at c3
  refine c3.mono ?_
  rintro ⟨p3, n3, m3⟩ w17 ⟨ho3, h17⟩ w18 h18
  have l5 : n3 = (embU ((splitB (B 1) 0 [64, 1]).getD [])).length := ho3.len
  have l6 : (embU ((splitB (B 1) 0 [64, 1]).getD [])).length = 0 := by decide +kernel
  refine ⟨?_, ((((E14.trans h15).allocd _).trans h16).trans h17).trans h18⟩
  show ((n3 : Int) == 0) = true
  have : n3 = 0 := by omega
  subst this; rfl
noncomputable def eKnown : Entry Try.prog where
  f := 20
  fn l := match l with
    | [] => some (True, .bool true)
    | _ => none
  ok args pre v h hp w := by
    split at h
    · cases h
      exact entry_of (known_ok w)
    · cases h
noncomputable def C5 : Cfg Try.prog := { C0 with tab := [eFits, eIs, eBit, eOne, eMask, eRMask, eRGet, eRPut, eGet, ePut, eCount, eKnown], share := true }
end Go.Proofs.Ytmdcalknhbhlcaa
