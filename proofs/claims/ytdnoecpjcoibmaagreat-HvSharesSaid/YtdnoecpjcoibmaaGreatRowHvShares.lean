/-
  For every input 'HvShares' returns true, and what was handed in reads as it did.
-/
import Derived.Test.YtdnoecpjcoibmaaGreatRows
import Derived.Test.YtdnoecpjcoibmaaGreatSNG
namespace Go.Proofs.YtdnoecpjcoibmaaGreat.hvShares
open Go.ChangeShapes Go.WideShapes Go.ChangeAt Go.RowKit Go.RX
set_option linter.unusedVariables false
theorem own:ownKnob Tryz.prog.godebug=none:=by kernel_rfl
theorem laidOut:laidOutB Tryz.prog=true:=by kernel_rfl
set_option maxRecDepth 100000 in
theorem lifted (os:Os) (started:os.Started) (H:Type) (enc:TypeId×Value->H):
 ReturnsInHanded {} Tryz.checked os 5 .any (Rows.hvSharesSpec.pre6 enc Tryz.prog Tryz.f5 Rows.hvSharesRow.domain false) (Rows.hvSharesSpec.post enc Tryz.prog Tryz.f5 false true false false):=by
 refine returnsInHanded_of_change (C:=Tryz.checked) own started (by kernel_rfl) Tryz.func5
  (ChangeSpec.witness6 (enc:=enc) (C:=Tryz.checked) false ⟨#[], #[.agg #[.int .u16 0,.int .u16 0],.agg #[.int .u64 0,.int .u64 0],.int .u8 0],[]⟩ 8 (by kernel_rfl) (by kernel_rfl) (by kernel_rfl) (by kernel_rfl)) ?_
 intro W base args ds gs before gH hW Fl _
 have hval: ∀(j:Nat) t v,Tryz.f5.params[j]? =some t->args[j]? =some v->Value.okWide Tryz.prog W .any base t v:=gH
 have zY:=hW
 obtain⟨p,q,xm,hV,rfl,hfz,jQ⟩:=hW
 have hA:DataW.TrodAll enc Tryz.prog W 0 (fun _=>true) true Tryz.f5.params.toList args.toList ds p:=xm
 rw[Tryz.params5] at hA hval
 obtain⟨v0,SI,d0,Ij,p0,q0,hargs,rfl,rfl,h0,r0⟩:=trodAll_cons hA
 obtain⟨v1,Tn,d1,To,p1,q1,rfl,rfl,rfl,h1,r1⟩:=trodAll_cons r0
 obtain⟨v2,vs2,d2,xh,p2,q2,rfl,rfl,rfl,h2,r2⟩:=trodAll_cons r1
 obtain⟨rfl,rfl,rfl⟩:=trodAll_nil r2
 obtain rfl:args= #[v0,v1,v2]:=by cases args;simp_all
 obtain⟨rfl,rfl⟩:=trodVars_none hV
 have k0:=h0
 have Tp: ∀x∈p0,x.block<W.heap.size:=by obtain⟨m,hm⟩:=k0;exact DataW.trod_lt m _ _ _ hm
 obtain⟨x0,rfl,w0⟩:=sv (ss:=[.int .u16,.int .u16]) 20 (by kernel_rfl) (.inl ⟨_, _,Tryz.underlying46⟩) (hval 0 46 v0 rfl rfl) h0
 have k1:=h1
 have Ih: ∀x∈p1,x.block<W.heap.size:=by obtain⟨m,hm⟩:=k1;exact DataW.trod_lt m _ _ _ hm
 obtain⟨x1,rfl,w1⟩:=sv (ss:=[.int .u64,.int .u64]) 20 (by kernel_rfl) (.inl ⟨_, _,Tryz.underlying47⟩) (hval 1 47 v1 rfl rfl) h1
 obtain⟨a2,rfl,rfl,rfl,w2⟩:=open_int Tryz.underlying5 (hval 2 5 v2 rfl rfl) h2
 clear xm gH
 refine Calls.mono (BA (w:=W) x0 w0 x1 w1 a2 w2) fun e W' ⟨x,he,hx,wL⟩=>?_
 subst hx;subst he
 exact⟨_,rfl, _, _, _,[], _,[],zY,trodAll_mk1 (shut_bool Tryz.underlying4 _),(trodAll_cons_mk (Below.trod laidOut (by kernel_rfl) (of_decide_eq_true (by kernel_rfl)) k0 wL Tp) (trodAll_cons_mk (Below.trod laidOut (by kernel_rfl) (of_decide_eq_true (by kernel_rfl)) k1 wL Ih) (trodAll_cons_mk (shut_int Tryz.underlying5 w2) trodAll_mk0))),rfl,wL.frame _,fun h=>by cases h⟩
theorem over:Rows.hvSharesRow.holds Tryz.pinned (OpenSpec.ofChange Rows.hvSharesSpec):=
 OpenClaim.holds_of_wide 5 Tryz.f5 rfl rfl rfl rfl rfl rfl rfl ⟨rfl,rfl,rfl,rfl,rfl⟩ rfl rfl rfl rfl rfl (by kernel_rfl) Tryz.func5 (by kernel_rfl)
  (of_decide_eq_true (by kernel_rfl)) (by unfold Func.isWrapper;first|(rw[if_pos (by decide+kernel)];kernel_rfl)|(rw[if_neg (by decide+kernel)];exact⟨rfl,rfl⟩))
  (fun os started H enc _=>lifted os started H enc)
theorem proved:Rows.HvSharesSaid:=over
#print axioms proved
end Go.Proofs.YtdnoecpjcoibmaaGreat.hvShares
