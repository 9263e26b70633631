/-
  For every input 'MultiOwn' returns true, and what was handed in reads as it did.
-/
import Derived.Test.YtlcenllcmeebhaaGreatRows
import Derived.Test.YtlcenllcmeebhaaGreatPAH
namespace Go.Proofs.YtlcenllcmeebhaaGreat.multiOwn
open Go.ChangeShapes Go.WideShapes Go.ChangeAt Go.RowKit Go.RX
set_option linter.unusedVariables false
theorem own:ownKnob Tryz.prog.godebug=none:=by kernel_rfl
theorem laidOut:laidOutB Tryz.prog=true:=by kernel_rfl
set_option maxRecDepth 100000 in
theorem lifted (os:Os) (started:os.Started) (H:Type) (enc:TypeId×Value->H):
 ReturnsInHanded {} Tryz.checked os 13 .any (Rows.multiOwnSpec.pre6 enc Tryz.prog Tryz.f13 Rows.multiOwnRow.domain false) (Rows.multiOwnSpec.post enc Tryz.prog Tryz.f13 false true false false):=by
 refine returnsInHanded_of_change (C:=Tryz.checked) own started (by kernel_rfl) Tryz.func13
  (ChangeSpec.witness6 (enc:=enc) (C:=Tryz.checked) false ⟨#[], #[.int .u8 0,.int .u64 0,.slice none 0 0],[]⟩ 8 (by kernel_rfl) (by kernel_rfl) (by kernel_rfl) (by kernel_rfl)) ?_
 intro W base args ds gs before XP hW ac8 _
 have F6: ∀(j:Nat) t v,Tryz.f13.params[j]? =some t->args[j]? =some v->Value.okWide Tryz.prog W .any base t v:=XP
 have hW':=hW
 obtain⟨p,q,hA0,hV,rfl,hfz,ky⟩:=hW
 have hA:DataW.TrodAll enc Tryz.prog W 0 (fun _=>true) true Tryz.f13.params.toList args.toList ds p:=hA0
 rw[Tryz.params13] at hA F6
 obtain⟨v0,vs0,d0,ds0,p0,q0,OH,rfl,rfl,h0,r0⟩:=trodAll_cons hA
 obtain⟨v1,vs1,d1,ds1,p1,q1,rfl,rfl,rfl,h1,r1⟩:=trodAll_cons r0
 obtain⟨v2,vs2,d2,AM,p2,q2,rfl,rfl,rfl,h2,r2⟩:=trodAll_cons r1
 obtain⟨rfl,rfl,rfl⟩:=trodAll_nil r2
 obtain rfl:args= #[v0,v1,v2]:=by cases args;simp_all
 obtain⟨rfl,rfl⟩:=trodVars_none hV
 obtain⟨a0,rfl,rfl,rfl,w0⟩:=open_int Tryz.underlying5 (F6 0 5 v0 rfl rfl) h0
 obtain⟨a1,rfl,rfl,rfl,w1⟩:=open_int Tryz.underlying29 (F6 1 29 v1 rfl rfl) h1
 have k2:=h2
 have lt2: ∀x∈p2,x.block<W.heap.size:=by obtain⟨m,hm⟩:=k2;exact DataW.trod_lt m _ _ _ hm
 obtain⟨a2,n2,c2,rfl⟩:=okWide_slice Tryz.underlying23 (F6 2 23 v2 rfl rfl)
 obtain⟨xs2,e2,m2,s2,w2⟩:=xk (ss:=[.int .i64,.bool,.int .i64,.int .i64,.int .u64,.int .u64,.int .u64]) 20 Tryz.underlying23 (by kernel_rfl) (by kernel_rfl) h2
 clear hA0 XP
 refine Calls.mono (Mu.TB (w:=W) a0 w0 a1 w1 a2 n2 c2 xs2 e2 m2 s2 w2) fun e W' ⟨x,he,hx,bel⟩=>?_
 subst hx;subst he
 exact⟨_,rfl, _, _, _,[], _,[],hW',trodAll_mk1 (shut_bool Tryz.underlying4 _),(trodAll_cons_mk (shut_int Tryz.underlying5 w0) (trodAll_cons_mk (shut_int Tryz.underlying29 w1) (trodAll_cons_mk (Below.trod laidOut (by kernel_rfl) (of_decide_eq_true (by kernel_rfl)) k2 bel lt2) trodAll_mk0))),rfl,bel.frame _,fun h=>by cases h⟩
theorem gq {a b:Bool} (h:a=true) (k:b=true):(a&&b)=true:=by rw[h,k];rfl
theorem jD {a b:Bool} (h:(a&&b)=true):a=true:=by cases a;exact h;rfl
theorem bQ {a b:Bool} (h:(a&&b)=true):b=true:=by cases a;cases h;exact h
noncomputable abbrev Pp:=Tryz.pinned.checked.prog
noncomputable abbrev cc:=Rows.multiOwnRow
noncomputable abbrev ss:=Rows.multiOwnSpec
noncomputable abbrev fF:=Tryz.f13
theorem g1:(cc.wf (OpenSpec.ofChange ss)&&laidOutB Pp&&mapsRowed Pp&&fF.params.all (Pp.readableRec ·)&&namedTie Pp cc.named ss.vars&&(cc.stops==[])&&(Pp.stops==[])&&(cc.knobs==[])&&(Pp.stopKnobs==[]))=true:=by kernel_rfl
theorem g2:((cc.inPlace==Pp.inPlace 13)&&((cc.unfollowed==Pp.unfollowed 13)&&((cc.recurses==Pp.recurses 13)&&(cc.named==Pp.varsNamed 13))))=true:=by kernel_rfl
theorem g3:((cc.maps==(fF.params.toList++ss.plain.varTypes Pp).any (Pp.mapsRec ·))&&((cc.ifaces==(fF.params.toList++ss.plain.varTypes Pp).any (Pp.ifacesRec ·))&&((cc.mapsOut==Pp.mapsAmong fF.resultTypes.toList)&&((cc.loops==(fF.params.toList++ss.plain.varTypes Pp).any (Pp.loopsFrom ·))&&(cc.wideKeys==(fF.params.toList++ss.plain.varTypes Pp++fF.resultTypes.toList).any (Pp.wideKeysFrom ·))))))=true:=by kernel_rfl
theorem g4:(ss.vars.all (Pp.varReadable ·)&&(fF.resultTypes.all (fun t=>Pp.readableRec t&&decide (t<Pp.types.size))&&((cc.ifacesOut==fF.resultTypes.toList.any (Pp.ifacesRec ·))&&((cc.loopsOut==fF.resultTypes.toList.any (Pp.loopsFrom ·))&&((cc.plainKeys==Pp.plainKeys)&&(cc.shortTexts.isNone&&(Pp.stopsHeard&&Pp.mayEnter)))))))=true:=by kernel_rfl
theorem g5:((cc.lifted==Pp.liftsFinal)&&((Pp.make==some cc.make)&&((cc.pinned==cc.pinnedBy)&&((cc.veiled==(fF.params.toList++ss.plain.varTypes Pp++fF.resultTypes.toList).any (Pp.veiledRec ·))&&cc.veiledFits Pp fF.params.toList (fF.params.toList++ss.plain.varTypes Pp++fF.resultTypes.toList)))))=true:=by kernel_rfl
theorem closed:joinedFacts Pp 13 fF ss cc=true:=
 gq (gq (gq (gq (gq (gq (gq (gq (gq (gq (gq (gq (gq (gq (gq (gq (gq (gq (gq (gq (gq (gq (gq g1 (jD g2)) (jD (bQ g2))) (jD (bQ (bQ g2)))) (bQ (bQ (bQ g2)))) (jD g3)) (jD (bQ g3))) (jD (bQ (bQ g3)))) (jD (bQ (bQ (bQ g3))))) (bQ (bQ (bQ (bQ g3))))) (jD g4)) (jD (bQ g4))) (jD (bQ (bQ g4)))) (jD (bQ (bQ (bQ g4))))) (jD (bQ (bQ (bQ (bQ g4)))))) (jD (bQ (bQ (bQ (bQ (bQ g4))))))) (jD (bQ (bQ (bQ (bQ (bQ (bQ g4)))))))) (bQ (bQ (bQ (bQ (bQ (bQ (bQ g4)))))))) (jD g5)) (jD (bQ g5))) (by kernel_rfl)) (jD (bQ (bQ g5)))) (jD (bQ (bQ (bQ g5))))) (bQ (bQ (bQ (bQ g5))))
theorem over:Rows.multiOwnRow.holds Tryz.pinned (OpenSpec.ofChange Rows.multiOwnSpec):=
 OpenClaim.holds_of_wide 13 Tryz.f13 rfl rfl rfl rfl rfl rfl rfl ⟨rfl,rfl,rfl,rfl,rfl⟩ rfl rfl rfl rfl rfl (by kernel_rfl) Tryz.func13 closed
  (of_decide_eq_true (by kernel_rfl)) (by unfold Func.isWrapper;first|(rw[if_pos (by decide+kernel)];kernel_rfl)|(rw[if_neg (by decide+kernel)];exact⟨rfl,rfl⟩))
  (fun os started H enc _=>lifted os started H enc)
theorem proved:Rows.MultiOwnSaid:=over
#print axioms proved
end Go.Proofs.YtlcenllcmeebhaaGreat.multiOwn
