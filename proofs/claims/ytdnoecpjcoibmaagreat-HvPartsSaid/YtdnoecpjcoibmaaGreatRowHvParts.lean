/-
  For every input 'HvParts' returns true, and what was handed in reads as it did.
-/
import Derived.Test.YtdnoecpjcoibmaaGreatRows
import Derived.Test.YtdnoecpjcoibmaaGreatSNG
namespace Go.Proofs.YtdnoecpjcoibmaaGreat.hvParts
open Go.ChangeShapes Go.WideShapes Go.ChangeAt Go.RowKit Go.RX
set_option linter.unusedVariables false
theorem own:ownKnob Tryz.prog.godebug=none:=by kernel_rfl
theorem laidOut:laidOutB Tryz.prog=true:=by kernel_rfl
set_option maxRecDepth 100000 in
theorem lifted (os:Os) (started:os.Started) (H:Type) (enc:TypeId×Value->H):
 ReturnsInHanded {} Tryz.checked os 6 .any (Rows.hvPartsSpec.pre6 enc Tryz.prog Tryz.f6 Rows.hvPartsRow.domain false) (Rows.hvPartsSpec.post enc Tryz.prog Tryz.f6 false true false false):=by
 refine returnsInHanded_of_change (C:=Tryz.checked) own started (by kernel_rfl) Tryz.func6
  (ChangeSpec.witness6 (enc:=enc) (C:=Tryz.checked) false ⟨#[], #[.int .u8 0,.slice none 0 0],[]⟩ 8 (by kernel_rfl) (by kernel_rfl) (by kernel_rfl) (by kernel_rfl)) ?_
 intro W base args ds gs before gH hW Fl _
 have hval: ∀(j:Nat) t v,Tryz.f6.params[j]? =some t->args[j]? =some v->Value.okWide Tryz.prog W .any base t v:=gH
 have zY:=hW
 obtain⟨p,q,xm,hV,rfl,hfz,jQ⟩:=hW
 have hA:DataW.TrodAll enc Tryz.prog W 0 (fun _=>true) true Tryz.f6.params.toList args.toList ds p:=xm
 rw[Tryz.params6] at hA hval
 obtain⟨v0,SI,d0,Ij,p0,q0,hargs,rfl,rfl,h0,r0⟩:=trodAll_cons hA
 obtain⟨v1,Tn,d1,To,p1,q1,rfl,rfl,rfl,h1,r1⟩:=trodAll_cons r0
 obtain⟨rfl,rfl,rfl⟩:=trodAll_nil r1
 obtain rfl:args= #[v0,v1]:=by cases args;simp_all
 obtain⟨rfl,rfl⟩:=trodVars_none hV
 obtain⟨a0,rfl,rfl,rfl,w0⟩:=open_int Tryz.underlying5 (hval 0 5 v0 rfl rfl) h0
 have k1:=h1
 have Ih: ∀x∈p1,x.block<W.heap.size:=by obtain⟨m,hm⟩:=k1;exact DataW.trod_lt m _ _ _ hm
 obtain⟨a1,n1,c1,rfl⟩:=okWide_slice Tryz.underlying22 (hval 1 22 v1 rfl rfl)
 obtain⟨Tq,e1,m1,s1,w1⟩:=fm (ss:=[.int .i64,.int .i64,.int .u64,.int .u64,.int .u64]) 20 Tryz.underlying22 (by kernel_rfl) (by kernel_rfl) h1
 clear xm gH
 refine Calls.mono (DC (w:=W) a0 w0 a1 n1 c1 Tq e1 m1 s1 w1) fun e W' ⟨x,he,hx,wL⟩=>?_
 subst hx;subst he
 exact⟨_,rfl, _, _, _,[], _,[],zY,trodAll_mk1 (shut_bool Tryz.underlying4 _),(trodAll_cons_mk (shut_int Tryz.underlying5 w0) (trodAll_cons_mk (Below.trod laidOut (by kernel_rfl) (of_decide_eq_true (by kernel_rfl)) k1 wL Ih) trodAll_mk0)),rfl,wL.frame _,fun h=>by cases h⟩
theorem over:Rows.hvPartsRow.holds Tryz.pinned (OpenSpec.ofChange Rows.hvPartsSpec):=
 OpenClaim.holds_of_wide 6 Tryz.f6 rfl rfl rfl rfl rfl rfl rfl ⟨rfl,rfl,rfl,rfl,rfl⟩ rfl rfl rfl rfl rfl (by kernel_rfl) Tryz.func6 (by kernel_rfl)
  (of_decide_eq_true (by kernel_rfl)) (by unfold Func.isWrapper;first|(rw[if_pos (by decide+kernel)];kernel_rfl)|(rw[if_neg (by decide+kernel)];exact⟨rfl,rfl⟩))
  (fun os started H enc _=>lifted os started H enc)
theorem proved:Rows.HvPartsSaid:=over
#print axioms proved
end Go.Proofs.YtdnoecpjcoibmaaGreat.hvParts
