/-
  For every input 'HvDoes' returns true, and what was handed in reads as it did.
-/
import Derived.Test.YteeflilbnoknnaaGreatRows
import Derived.Test.YteeflilbnoknnaaGreatHAH
namespace Go.Proofs.YteeflilbnoknnaaGreat.hvDoes
open Go.ChangeShapes Go.WideShapes Go.ChangeAt Go.RowKit Go.RX
set_option linter.unusedVariables false
theorem own:ownKnob Tryz.prog.godebug=none:=by kernel_rfl
theorem laidOut:laidOutB Tryz.prog=true:=by kernel_rfl
set_option maxRecDepth 100000 in
theorem lifted (os:Os) (started:os.Started) (H:Type) (enc:TypeId×Value->H):
 ReturnsInHanded {} Tryz.checked os 3 .any (Rows.hvDoesSpec.pre6 enc Tryz.prog Tryz.f3 Rows.hvDoesRow.domain false) (Rows.hvDoesSpec.post enc Tryz.prog Tryz.f3 false true false false):=by
 refine returnsInHanded_of_change (C:=Tryz.checked) own started (by kernel_rfl) Tryz.func3
  (ChangeSpec.witness6 (enc:=enc) (C:=Tryz.checked) false ⟨#[], #[.int .u8 0,.slice none 0 0],[]⟩ 8 (by kernel_rfl) (by kernel_rfl) (by kernel_rfl) (by kernel_rfl)) ?_
 intro W base args ds gs before Wl hW acY _
 have XM: ∀(j:Nat) t v,Tryz.f3.params[j]? =some t->args[j]? =some v->Value.okWide Tryz.prog W .any base t v:=Wl
 have ZV:=hW
 obtain⟨p,q,hA0,hV,rfl,hfz,kU⟩:=hW
 have hA:DataW.TrodAll enc Tryz.prog W 0 (fun _=>true) true Tryz.f3.params.toList args.toList ds p:=hA0
 rw[Tryz.params3] at hA XM
 obtain⟨v0,vs0,d0,Sm,p0,q0,No,rfl,rfl,h0,r0⟩:=trodAll_cons hA
 obtain⟨v1,vs1,d1,ds1,p1,q1,rfl,rfl,rfl,h1,r1⟩:=trodAll_cons r0
 obtain⟨rfl,rfl,rfl⟩:=trodAll_nil r1
 obtain rfl:args= #[v0,v1]:=by cases args;simp_all
 obtain⟨rfl,rfl⟩:=trodVars_none hV
 obtain⟨a0,rfl,rfl,rfl,w0⟩:=open_int Tryz.underlying5 (XM 0 5 v0 rfl rfl) h0
 have k1:=h1
 have lt1: ∀x∈p1,x.block<W.heap.size:=by obtain⟨m,hm⟩:=k1;exact DataW.trod_lt m _ _ _ hm
 obtain⟨a1,n1,c1,rfl⟩:=okWide_slice Tryz.underlying22 (XM 1 22 v1 rfl rfl)
 obtain⟨xs1,e1,m1,s1,w1⟩:=xS (ss:=[.int .i64,.int .i64,.int .u64,.int .u64,.int .u64]) 20 Tryz.underlying22 (by kernel_rfl) (by kernel_rfl) h1
 clear hA0 Wl
 refine Calls.mono (Mj (w:=W) a0 w0 a1 n1 c1 xs1 e1 m1 s1 w1) fun e W' ⟨x,he,hx,bel⟩=>?_
 subst hx;subst he
 exact⟨_,rfl, _, _, _,[], _,[],ZV,trodAll_mk1 (shut_bool Tryz.underlying4 _),(trodAll_cons_mk (shut_int Tryz.underlying5 w0) (trodAll_cons_mk (Below.trod laidOut (by kernel_rfl) (of_decide_eq_true (by kernel_rfl)) k1 bel lt1) trodAll_mk0)),rfl,bel.frame _,fun h=>by cases h⟩
theorem il {a b:Bool} (h:a=true) (k:b=true):(a&&b)=true:=by rw[h,k];rfl
theorem ku {a b:Bool} (h:(a&&b)=true):a=true:=by cases a;exact h;rfl
theorem bW {a b:Bool} (h:(a&&b)=true):b=true:=by cases a;cases h;exact h
noncomputable abbrev Pp:=Tryz.pinned.checked.prog
noncomputable abbrev cc:=Rows.hvDoesRow
noncomputable abbrev ss:=Rows.hvDoesSpec
noncomputable abbrev fF:=Tryz.f3
theorem g1:(cc.wf (OpenSpec.ofChange ss)&&laidOutB Pp&&mapsRowed Pp&&fF.params.all (Pp.readableRec ·)&&namedTie Pp cc.named ss.vars&&(cc.stops==[])&&(Pp.stops==[])&&(cc.knobs==[])&&(Pp.stopKnobs==[]))=true:=by kernel_rfl
theorem g2:((cc.inPlace==Pp.inPlace 3)&&((cc.unfollowed==Pp.unfollowed 3)&&((cc.recurses==Pp.recurses 3)&&(cc.named==Pp.varsNamed 3))))=true:=by kernel_rfl
theorem g3:((cc.maps==(fF.params.toList++ss.plain.varTypes Pp).any (Pp.mapsRec ·))&&((cc.ifaces==(fF.params.toList++ss.plain.varTypes Pp).any (Pp.ifacesRec ·))&&((cc.mapsOut==Pp.mapsAmong fF.resultTypes.toList)&&((cc.loops==(fF.params.toList++ss.plain.varTypes Pp).any (Pp.loopsFrom ·))&&(cc.wideKeys==(fF.params.toList++ss.plain.varTypes Pp++fF.resultTypes.toList).any (Pp.wideKeysFrom ·))))))=true:=by kernel_rfl
theorem g4:(ss.vars.all (Pp.varReadable ·)&&(fF.resultTypes.all (fun t=>Pp.readableRec t&&decide (t<Pp.types.size))&&((cc.ifacesOut==fF.resultTypes.toList.any (Pp.ifacesRec ·))&&((cc.loopsOut==fF.resultTypes.toList.any (Pp.loopsFrom ·))&&((cc.plainKeys==Pp.plainKeys)&&(cc.shortTexts.isNone&&(Pp.stopsHeard&&Pp.mayEnter)))))))=true:=by kernel_rfl
theorem g5:((cc.lifted==Pp.liftsFinal)&&((Pp.make==some cc.make)&&((cc.pinned==cc.pinnedBy)&&((cc.veiled==(fF.params.toList++ss.plain.varTypes Pp++fF.resultTypes.toList).any (Pp.veiledRec ·))&&cc.veiledFits Pp fF.params.toList (fF.params.toList++ss.plain.varTypes Pp++fF.resultTypes.toList)))))=true:=by kernel_rfl
theorem closed:joinedFacts Pp 3 fF ss cc=true:=
 il (il (il (il (il (il (il (il (il (il (il (il (il (il (il (il (il (il (il (il (il (il (il g1 (ku g2)) (ku (bW g2))) (ku (bW (bW g2)))) (bW (bW (bW g2)))) (ku g3)) (ku (bW g3))) (ku (bW (bW g3)))) (ku (bW (bW (bW g3))))) (bW (bW (bW (bW g3))))) (ku g4)) (ku (bW g4))) (ku (bW (bW g4)))) (ku (bW (bW (bW g4))))) (ku (bW (bW (bW (bW g4)))))) (ku (bW (bW (bW (bW (bW g4))))))) (ku (bW (bW (bW (bW (bW (bW g4)))))))) (bW (bW (bW (bW (bW (bW (bW g4)))))))) (ku g5)) (ku (bW g5))) (by kernel_rfl)) (ku (bW (bW g5)))) (ku (bW (bW (bW g5))))) (bW (bW (bW (bW g5))))
theorem over:Rows.hvDoesRow.holds Tryz.pinned (OpenSpec.ofChange Rows.hvDoesSpec):=
 OpenClaim.holds_of_wide 3 Tryz.f3 rfl rfl rfl rfl rfl rfl rfl ⟨rfl,rfl,rfl,rfl,rfl⟩ rfl rfl rfl rfl rfl (by kernel_rfl) Tryz.func3 closed
  (of_decide_eq_true (by kernel_rfl)) (by unfold Func.isWrapper;first|(rw[if_pos (by decide+kernel)];kernel_rfl)|(rw[if_neg (by decide+kernel)];exact⟨rfl,rfl⟩))
  (fun os started H enc _=>lifted os started H enc)
theorem proved:Rows.HvDoesSaid:=over
#print axioms proved
end Go.Proofs.YteeflilbnoknnaaGreat.hvDoes
