/-
  For every input 'HvWords' returns true, and what was handed in reads as it did.
-/
import Derived.Test.YtdnoecpjcoibmaaGreatRows
import Derived.Test.YtdnoecpjcoibmaaGreatSNG
namespace Go.Proofs.YtdnoecpjcoibmaaGreat.hvWords
open Go.ChangeShapes Go.WideShapes Go.ChangeAt Go.RowKit Go.RX
set_option linter.unusedVariables false
theorem own:ownKnob Tryz.prog.godebug=none:=by kernel_rfl
theorem laidOut:laidOutB Tryz.prog=true:=by kernel_rfl
set_option maxRecDepth 100000 in
theorem lifted (os:Os) (started:os.Started) (H:Type) (enc:TypeId×Value->H):
 ReturnsInHanded {} Tryz.checked os 4 .any (Rows.hvWordsSpec.pre6 enc Tryz.prog Tryz.f4 Rows.hvWordsRow.domain false) (Rows.hvWordsSpec.post enc Tryz.prog Tryz.f4 false true false false):=by
 refine returnsInHanded_of_change (C:=Tryz.checked) own started (by kernel_rfl) Tryz.func4
  (ChangeSpec.witness6 (enc:=enc) (C:=Tryz.checked) false ⟨#[], #[.slice none 0 0,.int .u64 0],[]⟩ 8 (by kernel_rfl) (by kernel_rfl) (by kernel_rfl) (by kernel_rfl)) ?_
 intro W base args ds gs before gH hW Fl _
 have hval: ∀(j:Nat) t v,Tryz.f4.params[j]? =some t->args[j]? =some v->Value.okWide Tryz.prog W .any base t v:=gH
 have zY:=hW
 obtain⟨p,q,xm,hV,rfl,hfz,jQ⟩:=hW
 have hA:DataW.TrodAll enc Tryz.prog W 0 (fun _=>true) true Tryz.f4.params.toList args.toList ds p:=xm
 rw[Tryz.params4] at hA hval
 obtain⟨v0,SI,d0,Ij,p0,q0,hargs,rfl,rfl,h0,r0⟩:=trodAll_cons hA
 obtain⟨v1,Tn,d1,To,p1,q1,rfl,rfl,rfl,h1,r1⟩:=trodAll_cons r0
 obtain⟨rfl,rfl,rfl⟩:=trodAll_nil r1
 obtain rfl:args= #[v0,v1]:=by cases args;simp_all
 obtain⟨rfl,rfl⟩:=trodVars_none hV
 have k0:=h0
 have Tp: ∀x∈p0,x.block<W.heap.size:=by obtain⟨m,hm⟩:=k0;exact DataW.trod_lt m _ _ _ hm
 obtain⟨a0,n0,c0,rfl⟩:=okWide_slice Tryz.underlying43 (hval 0 43 v0 rfl rfl)
 obtain⟨WC,e0,m0,s0,w0⟩:=uh Tryz.underlying43 Tryz.underlying44 (by kernel_rfl) h0
 obtain⟨a1,rfl,rfl,rfl,w1⟩:=open_int Tryz.underlying29 (hval 1 29 v1 rfl rfl) h1
 clear xm gH
 obtain⟨b1,rfl⟩:=Fu w1
 refine Calls.mono (DA (w:=W) a0 n0 c0 WC e0 m0 s0 w0 b1) fun e W' ⟨x,he,hx,wL⟩=>?_
 subst hx;subst he
 exact⟨_,rfl, _, _, _,[], _,[],zY,trodAll_mk1 (shut_bool Tryz.underlying4 _),(trodAll_cons_mk (Below.trod laidOut (by kernel_rfl) (of_decide_eq_true (by kernel_rfl)) k0 wL Tp) (trodAll_cons_mk (shut_int Tryz.underlying29 w1) trodAll_mk0)),rfl,wL.frame _,fun h=>by cases h⟩
theorem over:Rows.hvWordsRow.holds Tryz.pinned (OpenSpec.ofChange Rows.hvWordsSpec):=
 OpenClaim.holds_of_wide 4 Tryz.f4 rfl rfl rfl rfl rfl rfl rfl ⟨rfl,rfl,rfl,rfl,rfl⟩ rfl rfl rfl rfl rfl (by kernel_rfl) Tryz.func4 (by kernel_rfl)
  (of_decide_eq_true (by kernel_rfl)) (by unfold Func.isWrapper;first|(rw[if_pos (by decide+kernel)];kernel_rfl)|(rw[if_neg (by decide+kernel)];exact⟨rfl,rfl⟩))
  (fun os started H enc _=>lifted os started H enc)
theorem proved:Rows.HvWordsSaid:=over
#print axioms proved
end Go.Proofs.YtdnoecpjcoibmaaGreat.hvWords
