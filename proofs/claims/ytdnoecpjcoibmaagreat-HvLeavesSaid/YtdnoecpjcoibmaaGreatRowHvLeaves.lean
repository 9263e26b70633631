/-
  For every input 'HvLeaves' returns true, and what was handed in reads as it did.
-/
import Derived.Test.YtdnoecpjcoibmaaGreatRows
import Derived.Test.YtdnoecpjcoibmaaGreatSNG
namespace Go.Proofs.YtdnoecpjcoibmaaGreat.hvLeaves
open Go.ChangeShapes Go.WideShapes Go.ChangeAt Go.RowKit Go.RX
set_option linter.unusedVariables false
theorem own:ownKnob Tryz.prog.godebug=none:=by kernel_rfl
theorem laidOut:laidOutB Tryz.prog=true:=by kernel_rfl
set_option maxRecDepth 100000 in
theorem lifted (os:Os) (started:os.Started) (H:Type) (enc:TypeId×Value->H):
 ReturnsInHanded {} Tryz.checked os 7 .any (Rows.hvLeavesSpec.pre6 enc Tryz.prog Tryz.f7 Rows.hvLeavesRow.domain false) (Rows.hvLeavesSpec.post enc Tryz.prog Tryz.f7 false true false false):=by
 refine returnsInHanded_of_change (C:=Tryz.checked) own started (by kernel_rfl) Tryz.func7
  (ChangeSpec.witness6 (enc:=enc) (C:=Tryz.checked) false ⟨#[], #[.slice none 0 0],[]⟩ 8 (by kernel_rfl) (by kernel_rfl) (by kernel_rfl) (by kernel_rfl)) ?_
 intro W base args ds gs before gH hW Fl _
 have hval: ∀(j:Nat) t v,Tryz.f7.params[j]? =some t->args[j]? =some v->Value.okWide Tryz.prog W .any base t v:=gH
 have zY:=hW
 obtain⟨p,q,xm,hV,rfl,hfz,jQ⟩:=hW
 have hA:DataW.TrodAll enc Tryz.prog W 0 (fun _=>true) true Tryz.f7.params.toList args.toList ds p:=xm
 rw[Tryz.params7] at hA hval
 obtain⟨v0,SI,d0,Ij,p0,q0,hargs,rfl,rfl,h0,r0⟩:=trodAll_cons hA
 obtain⟨rfl,rfl,rfl⟩:=trodAll_nil r0
 obtain rfl:args= #[v0]:=by cases args;simp_all
 obtain⟨rfl,rfl⟩:=trodVars_none hV
 have k0:=h0
 have Tp: ∀x∈p0,x.block<W.heap.size:=by obtain⟨m,hm⟩:=k0;exact DataW.trod_lt m _ _ _ hm
 obtain⟨a0,n0,c0,rfl⟩:=okWide_slice Tryz.underlying22 (hval 0 22 v0 rfl rfl)
 obtain⟨WC,e0,m0,s0,w0⟩:=fm (ss:=[.int .i64,.int .i64,.int .u64,.int .u64,.int .u64]) 20 Tryz.underlying22 (by kernel_rfl) (by kernel_rfl) h0
 clear xm gH
 refine Calls.mono (BB (w:=W) a0 n0 c0 WC e0 m0 s0 w0) fun e W' ⟨x,he,hx,wL⟩=>?_
 subst hx;subst he
 exact⟨_,rfl, _, _, _,[], _,[],zY,trodAll_mk1 (shut_bool Tryz.underlying4 _),(trodAll_cons_mk (Below.trod laidOut (by kernel_rfl) (of_decide_eq_true (by kernel_rfl)) k0 wL Tp) trodAll_mk0),rfl,wL.frame _,fun h=>by cases h⟩
theorem over:Rows.hvLeavesRow.holds Tryz.pinned (OpenSpec.ofChange Rows.hvLeavesSpec):=
 OpenClaim.holds_of_wide 7 Tryz.f7 rfl rfl rfl rfl rfl rfl rfl ⟨rfl,rfl,rfl,rfl,rfl⟩ rfl rfl rfl rfl rfl (by kernel_rfl) Tryz.func7 (by kernel_rfl)
  (of_decide_eq_true (by kernel_rfl)) (by unfold Func.isWrapper;first|(rw[if_pos (by decide+kernel)];kernel_rfl)|(rw[if_neg (by decide+kernel)];exact⟨rfl,rfl⟩))
  (fun os started H enc _=>lifted os started H enc)
theorem proved:Rows.HvLeavesSaid:=over
#print axioms proved
end Go.Proofs.YtdnoecpjcoibmaaGreat.hvLeaves
