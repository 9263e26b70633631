import Derived.Test.YtdnoecpjcoibmaaGreatSNE
/-! What the statement leans on: texts joined and shortened by a program of mine. -/
set_option linter.unusedVariables false
set_option linter.unusedSimpArgs false
namespace Go.Proofs.YtdnoecpjcoibmaaGreat
set_option maxRecDepth 100000
open Go.RX D
def mU (k:Int) (b:Nat):MapEntry:={key:= .int .i64 k,val:= .func (.func (jT k)) #[] #[],born:=b}
def cA:Array MapEntry:=⟨[mU 1 0,mU 2 1,mU 17 2,mU 3 3,mU 4 4,mU 5 5,mU 6 6,mU 7 7,mU 8 8,mU 9 9,mU 10 10,mU 11 11,mU 12 12,mU 13 13,mU 14 14,mU 15 15,mU 16 16]⟩
section
variable {D G:List Nat} {w0 w:World} {L:List (Nat×List Value)} {M:List (Nat×Obj)}
theorem Hl (H:mP D G w0 w L M) {K:Option Nat->World->Prop} (k: ∀r w2,mP D G w0 w2 L ((r,.map cA 17)::M)->K (some r) w2):az Tryz.prog 50 (.el (.one .map)) [] w K:=by
 refine fun w1 h1=>ai (C:=V0) (aJ:=fun _=>[]) (Eq.mpr (GM w1 K) ?_)
 have H:=H.ext h1
 intro wm hm
 have H:=(H.ext hm).alloc (o:= .map #[] 0) trivial
 refine fS H (by kernel_rfl) fun w3 H=>?_
 refine fS H (by kernel_rfl) fun w4 H=>?_
 refine fS H (by kernel_rfl) fun w5 H=>?_
 refine fS H (by kernel_rfl) fun w6 H=>?_
 refine fS H (by kernel_rfl) fun w7 H=>?_
 refine fS H (by kernel_rfl) fun w8 H=>?_
 refine fS H (by kernel_rfl) fun w9 H=>?_
 refine fS H (by kernel_rfl) fun lE H=>?_
 refine fS H (by kernel_rfl) fun mh H=>?_
 refine fS H (by kernel_rfl) fun Ab H=>?_
 refine fS H (by kernel_rfl) fun E9 H=>?_
 refine fS H (by kernel_rfl) fun E_ H=>?_
 refine fS H (by kernel_rfl) fun U9 H=>?_
 refine fS H (by kernel_rfl) fun Sv H=>?_
 refine fS H (by kernel_rfl) fun VS H=>?_
 refine fS H (by kernel_rfl) fun Va H=>?_
 refine fS H (by kernel_rfl) fun SY H=>?_
 exact fun SZ S3=>k wm.heap.size SZ ((H.ext S3).PA (by kernel_rfl))
theorem zT {k:Int} (hk:1<=k/\k<=17):a_ Tryz.prog (jT k)=true:=by
 have:k=1\/k=2\/k=3\/k=4\/k=5\/k=6\/k=7\/k=8\/k=9\/k=10\/k=11\/k=12\/k=13\/k=14\/k=15\/k=16\/k=17:=by omega
 rcases this with rfl|rfl|rfl|rfl|rfl|rfl|rfl|rfl|rfl|rfl|rfl|rfl|rfl|rfl|rfl|rfl|rfl
 ·exact(by kernel_rfl:a_ Tryz.prog (jT 1)=true)
 ·exact(by kernel_rfl:a_ Tryz.prog (jT 2)=true)
 ·exact(by kernel_rfl:a_ Tryz.prog (jT 3)=true)
 ·exact(by kernel_rfl:a_ Tryz.prog (jT 4)=true)
 ·exact(by kernel_rfl:a_ Tryz.prog (jT 5)=true)
 ·exact(by kernel_rfl:a_ Tryz.prog (jT 6)=true)
 ·exact(by kernel_rfl:a_ Tryz.prog (jT 7)=true)
 ·exact(by kernel_rfl:a_ Tryz.prog (jT 8)=true)
 ·exact(by kernel_rfl:a_ Tryz.prog (jT 9)=true)
 ·exact(by kernel_rfl:a_ Tryz.prog (jT 10)=true)
 ·exact(by kernel_rfl:a_ Tryz.prog (jT 11)=true)
 ·exact(by kernel_rfl:a_ Tryz.prog (jT 12)=true)
 ·exact(by kernel_rfl:a_ Tryz.prog (jT 13)=true)
 ·exact(by kernel_rfl:a_ Tryz.prog (jT 14)=true)
 ·exact(by kernel_rfl:a_ Tryz.prog (jT 15)=true)
 ·exact(by kernel_rfl:a_ Tryz.prog (jT 16)=true)
 ·exact(by kernel_rfl:a_ Tryz.prog (jT 17)=true)
theorem tS {r:Nat} (h:bA w r cA 17) {k:Int} (hk:1<=k/\k<=17):mm w (some r) .i64 k Value.nilFunc (.func (.func (jT k)) #[] #[]):=by
 have:k=1\/k=2\/k=3\/k=4\/k=5\/k=6\/k=7\/k=8\/k=9\/k=10\/k=11\/k=12\/k=13\/k=14\/k=15\/k=16\/k=17:=by omega
 rcases this with rfl|rfl|rfl|rfl|rfl|rfl|rfl|rfl|rfl|rfl|rfl|rfl|rfl|rfl|rfl|rfl|rfl
 ·exact⟨r,cA,17,rfl,h,rfl⟩
 ·exact⟨r,cA,17,rfl,h,rfl⟩
 ·exact⟨r,cA,17,rfl,h,rfl⟩
 ·exact⟨r,cA,17,rfl,h,rfl⟩
 ·exact⟨r,cA,17,rfl,h,rfl⟩
 ·exact⟨r,cA,17,rfl,h,rfl⟩
 ·exact⟨r,cA,17,rfl,h,rfl⟩
 ·exact⟨r,cA,17,rfl,h,rfl⟩
 ·exact⟨r,cA,17,rfl,h,rfl⟩
 ·exact⟨r,cA,17,rfl,h,rfl⟩
 ·exact⟨r,cA,17,rfl,h,rfl⟩
 ·exact⟨r,cA,17,rfl,h,rfl⟩
 ·exact⟨r,cA,17,rfl,h,rfl⟩
 ·exact⟨r,cA,17,rfl,h,rfl⟩
 ·exact⟨r,cA,17,rfl,h,rfl⟩
 ·exact⟨r,cA,17,rfl,h,rfl⟩
 ·exact⟨r,cA,17,rfl,h,rfl⟩
end
section
variable {Q:Sys} {X:HX} {D G:List Nat} {w0 w:World} {s:WD} {h:HS} {L L0:List (Nat×List Value)} {M:List (Nat×Obj)} {K:RS->World->Prop}
theorem SM.JJ (H:SM Q D G w0 w s L0 M) {K:Option Nat->World->Prop} (k: ∀r w2,SM Q D G w0 w2 s L0 ((r,.map cA 17)::M)->K (some r) w2):az Tryz.prog 50 (.el (.one .map)) [] w K:=by
 obtain⟨a,b,c,d,ca,la,H⟩:=H
 exact Hl H fun r w2 H=>k r w2 ⟨a,b,c,d,ca,la,H⟩
theorem Cq (S:aU Q D G w0 w s L0) {j j1 b b1:Nat} {l:List Value} {y1 y2:Value} (hj:L0[j]? =some (b,l)) (wF:L0[j1]? =some (b1,[y1,y2])) (hne:j≠j1) (hl:l.length=2) (V E:Int)
 (kk: ∀w2,aU Q D G w0 w2 s ((L0.set j (b,[.int .u64 V,.int .i64 E])).set j1 (b1,[.int .u64 (if E=0 then V else 0),.int .i64 E]))->K (if E=0 then V else 0,E,()) w2):
 av w (some ⟨b,0,none⟩) [.int .u64 V,.int .i64 E] fun(w2:World)=>true=true/\ag w2 none (af (some ⟨b,0,none⟩) 1) (.one (.int .i64)) fun(x:Int)=>
  aB (x != 0)
   (true=true/\ag w2 none (af (some ⟨b,0,none⟩) 1) (.one (.int .i64)) fun(x:Int)=>True/\
    av w2 (some ⟨b1,0,none⟩) [.int .u64 0,.int .i64 x] fun(w2:World)=>aj w2 fun(w1:World)=>ag w1 none (some ⟨b1,0,none⟩) (.agg [.int .u64,.int .i64]) fun(x:Int×Int×Unit)=>K (x.1,x.2.1,()) w1)
   (ag w2 none (some ⟨b,0,none⟩) (.agg [.int .u64,.int .i64]) fun(x:Int×Int×Unit)=>
    av w2 (some ⟨b1,0,none⟩) [.int .u64 x.1,.int .i64 x.2.1] fun(w2:World)=>aj w2 fun(w1:World)=>ag w1 none (some ⟨b1,0,none⟩) (.agg [.int .u64,.int .i64]) fun(x:Int×Int×Unit)=>K (x.1,x.2.1,()) w1):=by
 have hjl:j<L0.length:=(List.getElem?_eq_some_iff.1 hj).1
 refine S.cC j hj rfl hl.symm fun w2 S=>?_
 have q1:(L0.set j (b,[.int .u64 V,.int .i64 E]))[j]? =some (b,[.int .u64 V,.int .i64 E]):=List.getElem?_set_self hjl
 have q2:(L0.set j (b,[.int .u64 V,.int .i64 E]))[j1]? =some (b1,[y1,y2]):=by rw[List.getElem?_set_ne hne];exact wF
 refine⟨rfl,S.bu j q1 (show _=some E from rfl) ?_⟩
 refine aa (fun e=>?_) (fun e=>?_)
 ·have e: ¬ E=0:=by simpa using e
  rw[if_neg e] at kk
  exact⟨rfl,S.bu j q1 (show _=some E from rfl) ⟨trivial,S.res q2 0 E fun w3 S=>kk w3 S⟩⟩
 ·have e:E=0:=by simpa using e
  rw[if_pos e] at kk
  exact S.ld j q1 (show _=some (V,E,()) from rfl) (S.res q2 V E fun w3 S=>kk w3 S)
theorem R5 {fid:Nat} {sh:Sh} {args:List Value} {w:World} {K:sh.T->World->Prop} (hc:a_ Tryz.prog fid=true) (hK: ∀w1,Ext w w1->an Tryz.prog fid sh args w1 K):BE Tryz.prog (.func (.func fid) #[] #[]) sh args w K:=by
 unfold BE
 refine fun w1 h1=>⟨fid, #[], #[],rfl,hc,?_⟩
 have e:dg #[] args #[]=args:=by unfold dg;simp
 rw[e]
 exact hK w1 h1
theorem R6 (H:bJ Q X D G w0 w h L) (R:QW Q h) (v k:Int) {a b c:Int} (ha:0<=a/\a<18446744073709551616) (hb:0<=b/\b<18446744073709551616) (hc:0<=c/\c<18446744073709551616)
 (kk: ∀w2,bJ Q X D G w0 w2 (g_ h v k a b c) L->K (qq h v k a b c,lH h v k a b c,()) w2):
 an Tryz.prog 14 (.el (.agg gw)) [.pointer (some ⟨X.hb,0,none⟩),.int .i64 v,.agg ⟨fi k a b c⟩] w K:=by
 obtain⟨A,W,H⟩:=H
 obtain⟨G',S,J⟩:=H.call
 refine aL (C:=V1) (aJ:=fun _=>[]) (Eq.mpr (JC _ v k a b c w K) ?_)
 unfold lH qq g_ at kk
 refine S.al fun ba w2 S=>S.al fun b1 w3 S=>⟨_,jK S (X:=X) (A:=A) (g:=h.g) (by simp),ak rfl ?_⟩
 have bad: ∀e,e≠0->iu h v k a b c=e-> ∀{w2:World} {x:List Value},aU Q [] G' w w2 h.s ((b1,x)::(ba,fi k a b c)::dF Q X A h (aR Q A h.g (List.range 17)++L))->K (0,e,()) w2:=fun e he h1 w2 x S=>by
  rw[h1,if_neg he,if_neg he,if_neg he] at kk
  exact kk w2 ⟨A,W,J S.tail.tail⟩
 have hP:iu h v k a b c=if(decide (v<0)||decide (v>16)|| !iB k a b c)=true then 1 else if(!(v==0)==qu k)=true then 7 else if(decide (v>0)&& !aD h.g v)=true then 4 else 0:=rfl
 refine S.ld 1 rfl (show _=some (k,a,b,c,()) from rfl) ⟨iB k a b c,fun _=>Lj k a b c,?_⟩
 refine aa (fun d=>⟨trivial,S.res (j:=0) rfl 0 1 fun w4 S=>?_⟩) (fun d=>⟨rfl,S.bu 1 rfl rfl ⟨qu k,C5 k,?_⟩⟩)
 ·rw[if_pos d] at hP
  exact bad 1 (by decide) hP S
 rw[if_neg (by rw[d];decide)] at hP
 simp only[Bool.or_eq_false_iff,decide_eq_false_iff_not,Bool.not_eq_false'] at d
 obtain⟨⟨dv0,dv1⟩,dr⟩:=d
 refine aa (fun d=>⟨trivial,S.res (j:=0) rfl 0 7 fun w4 S=>?_⟩) (fun d=>⟨aD h.g v,fun _=>n5 S (X:=X) (A:=A) (g:=h.g) (by simp) v,?_⟩)
 ·rw[if_pos d] at hP
  exact bad 7 (by decide) hP S
 rw[if_neg (by rw[d];decide)] at hP
 have dc:=d
 refine aa (fun d=>⟨trivial,S.res (j:=0) rfl 0 4 fun w4 S=>?_⟩) (fun d=>⟨rfl,S.bu 1 rfl rfl (S.ld 1 rfl (show _=some (k,a,b,c,()) from rfl) ?_)⟩)
 ·rw[if_pos d] at hP
  exact bad 4 (by decide) hP S
 rw[if_neg (by rw[d];decide)] at hP
 rw[hP,if_pos rfl,if_pos rfl,if_pos rfl] at kk
 have hk:1<=k/\k<=17:=by
  unfold iB at dr
  rw[Bool.and_eq_true,decide_eq_true_eq] at dr
  have d1:=dr.1
  unfold i_ at d1
  by_cases e:1<=k/\k<=17
  ·exact e
  ·rw[if_neg e] at d1;exact absurd d1 (by decide)
 have hl:qu k=false->aD h.g v=true:=fun e=>by
  rw[e] at dc
  have Pf:v≠0:=by
   intro e0;rw[e0] at dc;exact absurd dc (by decide)
  have:decide (v>0)=true:=decide_eq_true (by omega)
  rw[this,Bool.true_and] at d
  simpa using d
 have call: ∀{T:List (Nat×List Value)} {w4:World} {K2:RS->World->Prop},SM Q D G w0 w4 h.s (T++dF Q X A h (aR Q A h.g (List.range 17)++L)) (dW A h.g (List.range 17))->
  (∀V w5 A2,((run h v k a b c).2.2=0->V=(run h v k a b c).2.1)->zW A2 (run h v k a b c).1->SM Q D G w0 w5 (run h v k a b c).1.s (T++dF Q X A2 (run h v k a b c).1 (aR Q A2 (run h v k a b c).1.g (List.range 17)++L)) (dW A2 (run h v k a b c).1.g (List.range 17))->K2 (V,(run h v k a b c).2.2,()) w5)->
  BE Tryz.prog (.func (.func (jT k)) #[] #[]) (.el (.agg gw)) [.pointer (some ⟨X.hb,0,none⟩),.int .i64 v,.agg ⟨fi k a b c⟩] w4 K2:=fun{T w4 K2} H ZF=>by
  refine R5 (zT hk) fun w5 h5=>?_
  refine hrun (bJ.of W (H.ext h5)) R hk hl ha hb hc fun V w6 hV H=>?_
  obtain⟨A2,W2,H⟩:=bJ.to H
  exact ZF V w6 A2 hV W2 H
 have fin: ∀{V:Int},((run h v k a b c).2.2=0->V=(run h v k a b c).2.1)->(if(run h v k a b c).2.2=0 then V else 0)=if(run h v k a b c).2.2=0 then(run h v k a b c).2.1 else 0:=fun{V} hV=>by
  by_cases e:(run h v k a b c).2.2=0
  ·rw[if_pos e,if_pos e,hV e]
  ·rw[if_neg e,if_neg e]
 refine⟨?_,?_⟩
 ·refine(J S).JJ fun r w4 H=>?_
  have hmo:bA w4 r cA 17:=H.get List.mem_cons_self
  have H:=H.Fh (List.sublist_cons_self _ _)
  obtain⟨G2,S,J2⟩:=H.call
  refine⟨bY (S.get (i:=1) rfl) rfl,?_,trivial, _,tS hmo hk,?_,?_⟩
  ·rw[aK];exact bY (S.get (i:=1) rfl) rfl
  ·refine call (T:=[_, _]) H fun V w5 A2 hV W2 H=>?_
   obtain⟨G3,S,J3⟩:=H.call
   refine S.al fun b2 w6 S=>Cq S (j:=0) (j1:=1) rfl rfl (by decide) rfl V _ fun w7 S=>?_
   rw[fin hV]
   exact kk w7 ⟨A2,W2,J3 S.tail.tail.tail⟩
  ·refine S.al fun b2 w5 S=>call (T:=[_, _, _]) (J2 S) fun V w6 A2 hV W2 H=>?_
   obtain⟨G3,S,J3⟩:=H.call
   refine Cq S (j:=0) (j1:=1) rfl rfl (by decide) rfl V _ fun w7 S=>?_
   rw[fin hV]
   exact kk w7 ⟨A2,W2,J3 S.tail.tail.tail⟩
 ·refine S.al fun b2 w4 S=>(J S).JJ fun r w5 H=>?_
  have hmo:bA w5 r cA 17:=H.get List.mem_cons_self
  have H:=H.Fh (List.sublist_cons_self _ _)
  obtain⟨G2,S,J2⟩:=H.call
  refine⟨bY (S.get (i:=2) rfl) rfl,?_,trivial, _,tS hmo hk,?_⟩
  ·rw[aK];exact bY (S.get (i:=2) rfl) rfl
  ·refine call (T:=[_, _, _]) H fun V w6 A2 hV W2 H=>?_
   obtain⟨G3,S,J3⟩:=H.call
   refine Cq S (j:=0) (j1:=1) rfl rfl (by decide) rfl V _ fun w7 S=>?_
   rw[fin hV]
   exact kk w7 ⟨A2,W2,J3 S.tail.tail.tail⟩
end
end Go.Proofs.YtdnoecpjcoibmaaGreat
namespace Go.Proofs.YtdnoecpjcoibmaaGreat
set_option maxRecDepth 100000
open Go.RX D
open Po (tv w_ m6 iV nR jj p_ td)
def BD (gs:List GT) (po:List Po.PT) (u v:Int):Prop:=tf gs u v=true\/Po.ta 4 po u v=true
open Classical in
noncomputable def qH (gs:List GT) (po:List Po.PT) (a b:Int):Bool:=decide (1<=a/\a<=16)&&(decide (1<=b/\b<=16)&&decide (Rc (BD gs po) a b))
theorem sE {gs:List GT} {po:List Po.PT} {a b:Int}:qH gs po a b=true<->(1<=a/\a<=16)/\(1<=b/\b<=16)/\Rc (BD gs po) a b:=by
 unfold qH;simp
theorem EG {gs:List GT} {po:List Po.PT} {u v:Int} (h:BD gs po u v):(1<=u/\u<=16)/\(1<=v/\v<=16):=by
 rcases h with h|h
 ·obtain⟨h1,h2, _⟩:=lu.1 h
  exact⟨ng.1 h1,ng.1 h2⟩
 ·obtain⟨h1,h2, _⟩:=Po.su.1 h
  exact⟨by simpa[Po.gI] using h1,by simpa[Po.gI] using h2⟩
section
variable {w0:World} {Q:Sys} {X:HX} {A:Nat->GA} {g:Nat->Option GV} {gs:List GT} {po:List Po.PT}
structure SD (w0:World) (Q:Sys) (X:HX) (A:Nat->GA) (g:Nat->Option GV) (gs:List GT) (po:List Po.PT):Prop where
 hb:aY w0 X.hb (hcs Q X A g)
 gb:aY w0 X.gb (j_ X.rP gs.length X.c)
 gr:aY w0 X.rP (flat eG gs++X.rest)
 pb:aY w0 X.pb (Po.fL 4 po)
 gl:gs.length=16
 gk:kJ gs
 pt:Po.jl 4 po
abbrev mB (be bn bd:Nat) (X:HX) (bs:List Bool) (L:List (Nat×List Value)):List (Nat×List Value):=
 (be,[.func (.func 52) #[] #[.pointer (some ⟨bn,0,none⟩),.pointer (some ⟨bd,0,none⟩),.pointer (some ⟨be,0,none⟩)]])::(bn,w_ bs)::(bd,[.pointer (some ⟨X.hb,0,none⟩)])::L
theorem SD.ZG {w:World} (B:SD w0 Q X A g gs po) (h:Ext w0 w) (a b:Int):ah Tryz.prog 53 [.pointer (some ⟨X.gb,0,none⟩),.int .i64 a,.int .i64 b] w (.bool (tf gs a b)):=
 ah.of (s:= .el (.one .bool)) fun w' h'=>CZ ((B.gb.ext h).ext h') ((B.gr.ext h).ext h') (by rw[B.gl];decide) (by rw[B.gl];decide) B.gk a b
theorem SD.ZH {w:World} (B:SD w0 Q X A g gs po) (h:Ext w0 w) (a b:Int):ah Tryz.prog 54 [.pointer (some ⟨X.pb,0,none⟩),.int .i64 a,.int .i64 b] w (.bool (Po.ta 4 po a b)):=
 ah.of (s:= .el (.one .bool)) fun w' h'=>Po.CY ((B.pb.ext h).ext h') B.pt a b
theorem Ho (B:SD w0 Q X A g gs po) {be bn bd:Nat} {L:List (Nat×List Value)}:
 ∀(q:Nat) (bs:List Bool),nR bs<=q->bs.length=17-> ∀{w:World} {n:Int},1<=n/\n<=16->tv bs n=false->At [] w0 w (mB be bn bd X bs L)-> ∀{K:Unit->World->Prop},(∀bs' w2,Pe (BD gs po) n bs bs'->At [] w0 w2 (mB be bn bd X bs' L)->K () w2)->
 az Tryz.prog 52 (.bq []) [.int .i64 n,.pointer (some ⟨bn,0,none⟩),.pointer (some ⟨bd,0,none⟩),.pointer (some ⟨be,0,none⟩)] w K:=by
 intro q
 induction q with
 |zero=>
  intro bs hq hb w n hn ht H K k
  have qn:n.toNat<bs.length:=by omega
  have:=jj (bs:=bs) qn
  have h:bs.getD n.toNat false=false:=ht
  rw[h,if_pos rfl] at this
  omega
 |succ q ih=>
  intro bs hq hb w n hn ht H K k
  refine az.go H fun w1 H=>ai (C:=V2) (aJ:=mG) (Eq.mpr (Bx n _ _ _ w1 K) ?_)
  have qn:n.toNat<bs.length:=by omega
  have wT:(some (⟨bn,0,none⟩:Addr)).isSome=true/\0<=n/\n<((17:Nat):Int):=⟨rfl,by omega,by omega⟩
  refine⟨wT,td 1 H rfl qn fun w2 H=>?_⟩
  have L0:=Lp.init (E:=BD gs po) hb ⟨by omega,hn.2⟩
  have Sz: ∀{cs},Lp (BD gs po) n bs cs->nR cs<=q:=fun{cs} h=>by
   have:=h.nR
   rw[ht,if_pos rfl] at this
   omega
  refine⟨fun m v w'=>(1<=v.1/\v.1<=17/\(m:Int)=17 - v.1)/\ ∃cs:List Bool,Lp (BD gs po) n bs cs/\(∀u:Int,1<=u->u<v.1->BD gs po n u->tv cs u=true)/\At [] w0 w' (mB be bn bd X cs L),⟨16,fun w3 h3=>⟨⟨by decide,by decide,by decide⟩, _,L0,fun u h1 h2=>(by dsimp only at h2;omega),H.ext h3⟩⟩,?_⟩
  clear H
  rintro m ⟨v,u⟩ w3 ⟨⟨v1,v2,hm⟩,cs,hL,hall,H⟩
  dsimp only at v1 v2 hm hall ⊢
  refine aa (fun cc=>?_) (fun cc=>aj.go H fun w4 H=>k cs w4 (hL.done fun y hy=>?_) H)
  ·have cc:v<=16:=by simpa using cc
   have hvl:v.toNat<cs.length:=by rw[hL.len];omega
   have yU:au .i64 v 1=v+1:=ar (by omega) (by omega)
   rw[yU]
   have Qc: ∀{cs':List Bool} {w4:World},Lp (BD gs po) n bs cs'->(∀u,0<=u->tv cs u=true->tv cs' u=true)->(BD gs po n v->tv cs' v=true)->At [] w0 w4 (mB be bn bd X cs' L)-> ∀w5,Ext w4 w5-> ∃n',n'<m/\(1<=v+1/\v+1<=17/\(n':Int)=17 - (v+1))/\ ∃cs:List Bool,Lp (BD gs po) n bs cs/\(∀u:Int,1<=u->u<v+1->BD gs po n u->tv cs u=true)/\At [] w0 w5 (mB be bn bd X cs L):=by
    intro cs' w4 hL' hmo hx' H w5 h5
    refine⟨m - 1,by omega,⟨by omega,by omega,by omega⟩,cs',hL',fun y y1 y2 hy=>?_,H.ext h5⟩
    by_cases e:y=v
    ·subst e;exact hx' hy
    ·exact hmo y (by omega) (hall y y1 (by omega) hy)
   have ZI:cg w3 (af (some ⟨X.hb,0,none⟩) 2) (.one .ptr) (some ⟨X.gb,0,none⟩):=by
    rw[aK];exact bY (H.old B.hb (by simp)) rfl
   have ZJ:cg w3 (af (some ⟨X.hb,0,none⟩) 3) (.one .ptr) (some ⟨X.pb,0,none⟩):=by
    rw[aK];exact bY (H.old B.hb (by simp)) rfl
   refine⟨⟨rfl,by omega,by show v<((17:Nat):Int);omega⟩,ag.bP 1 H rfl (m6 hvl) (ag.at 2 H rfl rfl ⟨fun _=>rfl,fun _=>rfl,ag.of _ ZI ⟨tf gs n v,fun _=>B.ZG H.all n v,ag.at 2 H rfl rfl ⟨fun _=>rfl,fun _=>rfl,ag.of _ ZJ ⟨Po.ta 4 po n v,fun _=>B.ZH H.all n v,?_⟩⟩⟩⟩)⟩
   refine aa (fun d=>?_) (fun d=>Qc hL (fun _ _ h=>h) (fun he=>?_) H)
   ·simp only[Bool.and_eq_true,Bool.not_eq_true',Bool.or_eq_true] at d
    obtain⟨d1,d2⟩:=d
    refine ag.at 0 H rfl rfl (ih cs (Sz hL) hL.len ⟨v1,cc⟩ d1 H fun cs' w6 hd H=>?_)
    exact Qc (hL.call d2 hd (by omega)) hd.mono (fun _=>hd.hit) H
   ·have he:tf gs n v=true\/Po.ta 4 po n v=true:=he
    cases Pq:tv cs v with
    |true=>rfl
    |false=>
     rw[Pq] at d
     simp only[Bool.not_false,Bool.true_and,Bool.or_eq_false_iff] at d
     rcases he with he|he
     ·rw[d.1] at he;cases he
     ·rw[d.2] at he;cases he
  ·have cc: ¬ v<=16:=by simpa using cc
   have:=EG hy
   exact hall y this.2.1 (by omega) hy
theorem Dq (B:SD w0 Q X A g gs po) (a b:Int) (ZK:ah Tryz.prog 47 [.pointer (some ⟨X.hb,0,none⟩)] w0 (.bool true)):
 an Tryz.prog 17 (.el (.one .bool)) [.pointer (some ⟨X.hb,0,none⟩),.int .i64 a,.int .i64 b] w0 (fun x w'=>x=qH gs po a b/\Ext w0 w'):=by
 refine ai (C:=V2) (aJ:=fun _=>[]) (Eq.mpr (wg _ a b w0 _) ?_)
 have H:=At.start [] w0
 refine aA.go H fun bd w2 H=>ag.at 0 H rfl rfl ⟨true,fun w' h'=>ZK w' (H.all.trans h'),aa (fun d=>aj.go H fun w3 H=>⟨?_,H.all⟩) (fun d=>?_)⟩
 ·unfold qH
  simp only[Bool.not_true,Bool.false_or,Bool.or_eq_true,decide_eq_true_eq] at d
  symm
  rw[Bool.and_eq_false_iff,decide_eq_false_iff_not,Bool.and_eq_false_iff,decide_eq_false_iff_not]
  by_cases ha:1<=a/\a<=16
  ·exact .inr (.inl (by omega))
  ·exact .inl ha
 simp only[Bool.not_true,Bool.false_or,Bool.or_eq_false_iff,decide_eq_false_iff_not] at d
 have ha:1<=a/\a<=16:=by omega
 have hb:1<=b/\b<=16:=by omega
 refine aA.go H fun bn w3 H=>aA.go H fun be w4 H=>av.all 0 H rfl rfl rfl fun w5 H=>ag.at 0 H rfl rfl ?_
 have H:At [] w0 w5 (mB be bn bd X (List.replicate 17 false) []):=H
 refine Ho B (nR (List.replicate 17 false)) (List.replicate 17 false) (Nat.le_refl _) (by simp) ha ?_ H fun bs' w6 hd H=>?_
 ·unfold tv
  rw[List.getD_eq_getElem?_getD,List.getElem?_replicate]
  split<;>rfl
 have VR:b.toNat<bs'.length:=by rw[hd.len];omega
 refine⟨⟨rfl,by omega,by show b<((17:Nat):Int);omega⟩,ag.bP 1 H rfl (m6 VR) (aj.go H fun w7 H=>⟨?_,H.all⟩)⟩
 have:=hd.iff (b:=b) (by omega) fun u v e=>by have:=EG e;omega
 rw[Bool.eq_iff_iff,sE,this]
 exact⟨fun h=>⟨ha,hb,h⟩,fun h=>h.2.2⟩
end
section
variable {Q:Sys} {X:HX} {D G:List Nat} {w0 w:World} {h:HS} {L:List (Nat×List Value)}
theorem yq (H:bJ Q X D G w0 w h L) (a b:Int):ah Tryz.prog 17 [.pointer (some ⟨X.hb,0,none⟩),.int .i64 a,.int .i64 b] w (.bool (qH h.gr h.po a b)):=by
 obtain⟨A,W,H⟩:=H
 have S:=H.base
 refine ah.of (s:= .el (.one .bool)) fun w' h'=>?_
 have S:=S.ext h'
 exact Dq (A:=A) (g:=h.g) ⟨S.get (i:=0) rfl,S.get (i:=1) rfl,S.get (i:=2) rfl,S.get (i:=3) rfl,W.gl,W.gk,W.pt⟩ a b (jK S (X:=X) (A:=A) (g:=h.g) (by simp))
end
end Go.Proofs.YtdnoecpjcoibmaaGreat
namespace Go.Proofs.YtdnoecpjcoibmaaGreat.Po
set_option maxRecDepth 100000
open Go.RX
def k0:List PT:=List.replicate 512 zP
theorem Mg {room:Int} (h1:1<=room) (h2:room<=32):jl room k0 where
 len:=List.length_replicate
 lo:=h1
 hi:=h2
 inv g i h:=by
  refine .inl ?_
  unfold gp k0
  rw[List.getD_eq_getElem?_getD,List.getElem?_replicate]
  split<;>rfl
theorem Hp (n:Int) (w:World) (Post:Option Addr×Int×Unit->World->Prop):(aH R1 (fun _=>[]) 46 [.int .i64 n] w Post)=(
 aB (decide (n<1)||decide (n>32)) (aj w fun w1=>Post (none,1,Unit.unit) w1) (aA w ⟨fL n k0⟩ 175 fun b w2=>aj w2 fun w1=>Post (some ⟨b,0,none⟩,0,Unit.unit) w1)):=by kernel_rfl
section
variable {D G:List Nat} {w0 w:World} {L:List (Nat×List Value)}
theorem Mh (H:aF D G w0 w L) (n:Int) {K:Option Addr×Int×Unit->World->Prop} (hb:n<1\/n>32-> ∀w1,aF D G w0 w1 L->K (none,1,()) w1)
 (hg:1<=n->n<=32-> ∀bp w1,aF D G w0 w1 ((bp,fL n k0)::L)->K (some ⟨bp,0,none⟩,0,()) w1):
 az Tryz.prog 46 (.bq [.one .ptr,.one (.int .i64)]) [.int .i64 n] w K:=by
 refine az.go H fun w1 H=>ai (C:=R1) (aJ:=fun _=>[]) (Eq.mpr (Hp n w1 K) ?_)
 refine aa (fun c=>?_) (fun c=>?_)
 ·exact aj.go H fun w2 H=>hb (by simp at c;omega) w2 H
 ·refine aA.go H fun b w2 H=>aj.go H fun w3 H=>hg (by simp at c;omega) (by simp at c;omega) b w3 H
end
end Go.Proofs.YtdnoecpjcoibmaaGreat.Po
namespace Go.Proofs.YtdnoecpjcoibmaaGreat
set_option maxRecDepth 100000
open Go.RX D
def h0 (n:Nat):HS:={s:=fresh (16*n) n,g:=fun _=>none,gr:=List.replicate 16 zG,po:=Po.k0}
section
variable {D G:List Nat} {w0 w:World} {L:List (Nat×List Value)}
theorem lY (H:aF D G w0 w L) (n:Int) {K:Option Addr×Int×Unit->World->Prop} (kb:n<4\/n>4096-> ∀w1,aF D G w0 w1 L->K (none,1,()) w1)
 (kg:4<=n->n<=4096-> ∀Q X w1,Q.c=16*n.toNat->bJ Q X D G w0 w1 (h0 n.toNat) L->K (some ⟨X.hb,0,none⟩,0,()) w1):
 az Tryz.prog 12 (.bq [.one .ptr,.one (.int .i64)]) [.int .i64 n] w K:=by
 refine az.go H fun w1 H=>ai (C:=V0) (aJ:=fun _=>[]) (Eq.mpr (Et n w1 K) ?_)
 refine aa (fun c=>aj.go H fun w2 H=>kb (by simpa using c) w2 H) (fun c=>?_)
 have hn:4<=n/\n<=4096:=by
  simp only[Bool.or_eq_false_iff,decide_eq_false_iff_not] at c;omega
 obtain⟨m,rfl⟩: ∃m:Nat,n=(m:Int):=⟨n.toNat,by omega⟩
 have e:b_ .i64 16 (m:Int)=((16*m:Nat):Int):=by rw[eA (by omega) (by omega)];omega
 rw[e]
 refine aA.go H fun b w2 H=>?_
 refine NL (n:=16*m) H (by omega) fun bm bw w3 H=>⟨rfl,rfl,?_⟩
 generalize hW:List.replicate (16*m) (0:Int)=W at H
 refine av.dJ 2 H rfl rfl rfl fun w4 H=>?_
 refine Ok H (m:Int) (fun hb=>by omega) fun _ _ bp bf w5 H=>⟨rfl,rfl,?_⟩
 rw[show((m:Int)).toNat=m from rfl] at H
 generalize hD:List.replicate m zD=DS at H
 refine av.dJ 4 H rfl rfl rfl fun w6 H=>?_
 refine NW H 16 (by decide) fun gb gr w7 H=>⟨rfl,rfl,?_⟩
 obtain⟨GS,hG⟩: ∃GS,GS=List.replicate 16 zG:=⟨_,rfl⟩
 rw[<-hG] at H
 refine av.dJ 6 H rfl rfl rfl fun w8 H=>?_
 refine Po.Mh H 4 (fun hb=>by omega) fun _ _ pb w9 H=>⟨rfl,rfl,?_⟩
 obtain⟨PS,hP⟩: ∃PS,PS=Po.k0:=⟨_,rfl⟩
 rw[<-hP] at H
 refine av.dJ 7 H rfl rfl rfl fun lE H=>aj.go H fun mh H=>?_
 refine kg hn.1 hn.2 ⟨bm,bw,bf,bp,16*m,m,[],[]⟩ ⟨b,gb,gr,pb,16,[]⟩ mh rfl ⟨fun _=>⟨0,0,0,0,[]⟩,⟨fun h=>(by cases h),fun h=>(by cases h),rfl,Po.Mg (by decide) (by decide),kJ.new 16⟩,SM.of ⟨?_,?_,?_,?_,0,0,?_⟩⟩
 ·show 0<(List.replicate (16*m) (0:Int)).length
  rw[List.length_replicate];omega
 ·show 0<(List.replicate m zD).length
  rw[List.length_replicate];omega
 ·show(List.replicate m zD).length<=4096
  rw[List.length_replicate];omega
 ·intro x hx
  have hx:x∈List.replicate (16*m) (0:Int):=hx
  rw[List.eq_of_mem_replicate hx];decide
 ·unfold Sys.L
  show aF D G w0 mh ((bm,hH bw (List.replicate (16*m) (0:Int)).length (16*m) 0 0)::(bw,flat eW (List.replicate (16*m) (0:Int))++[])::(bf,flat eD (List.replicate m zD)++[])::(bp,[.slice (some ⟨bf,0,none⟩) (List.replicate m zD).length m])::(b,hcs _ _ (fun _=>⟨0,0,0,0,[]⟩) fun _=>none)::(gb,j_ gr (List.replicate 16 zG).length 16)::(gr,flat eG (List.replicate 16 zG)++[])::(pb,Po.fL 4 Po.k0)::([]++L))
  rw[hW,hD, <-hG, <-hP,show W.length=16*m by rw[<-hW,List.length_replicate],show DS.length=m by rw[<-hD,List.length_replicate]]
  refine H.perm ?_
  have p1: ∀(x1 x2 x3 x4 x5 x6 x7 x8:Nat×List Value),([x6,x7,x5,x4,x8,x2,x3,x1]++L).Perm ([x1,x2,x3,x4,x5,x6,x7,x8]++L):=fun x1 x2 x3 x4 x5 x6 x7 x8=>by
   refine List.Perm.append_right L ?_
   exact(show([5,6,4,3,7,1,2,0]:List Nat).Perm [0,1,2,3,4,5,6,7] by decide).map fun i=>([x1,x2,x3,x4,x5,x6,x7,x8]:List (Nat×List Value)).getD i x1
  exact p1 _ _ _ _ _ _ _ _
end
end Go.Proofs.YtdnoecpjcoibmaaGreat
namespace Go.Proofs.YtdnoecpjcoibmaaGreat
set_option maxRecDepth 100000
open Go.RX D
namespace Inv
variable {g:Gh} {s s':WD}
structure fe (g:Gh) (s s':WD):Prop where
 len:s'.1.length=s.1.length/\s'.2.length=s.2.length
 ws: ∀{f o x k:Int} {l:Nat},g f=some (o,l,x)->0<=k->k<16->cZ s'.1 (16*f+k)=cZ s.1 (16*f+k)
 tb: ∀{n:Nat} {d:DT},s.2[n]? =some d->d.1=3->s'.2[n]? =some d
 bt: ∀{n:Nat} {d:DT},s'.2[n]? =some d->d.1=3->s.2[n]? =some d
 fz: ∀d∈s'.2,d.1=0->d=zD
theorem fe.Qq (B:fe g s s') {f o x k:Int} {l:Nat} (h:g f=some (o,l,x)) (h0:0<=k) (h1:k<16):aC s'.1 (16*f+k)=aC s.1 (16*f+k):=by
 unfold aC;rw[B.ws h h0 h1]
theorem beside (I:Inv g s) (B:fe g s s'):Inv g s' where
 len:=by rw[B.len.1,B.len.2];exact I.len
 le:=by rw[B.len.2];exact I.le
 fz:=B.fz
 kd:=fun{f o l x} h=>by
  obtain⟨a,b,c,d⟩:=I.kd h
  rw[B.len.2]
  exact⟨a,b,B.tb c rfl,d⟩
 inj:=I.inj
 qc:=fun{f o l x i} h h0 h1 ht=>by
  rw[B.Qq h h0 h1] at ht ⊢
  exact I.qc h h0 h1 ht
 leaf:=fun{f o l x i} h h0 h1=>by
  rw[B.Qq h h0 h1];exact I.leaf h h0 h1
 Ad:=fun{f o l x} h hl=>by
  obtain⟨f',h1,h2⟩:=I.Ad h hl
  refine⟨f',h1,?_⟩
  rw[B.Qq h1 (by omega) (by omega)];exact h2
 wf:=fun{f o l x i} h h0 h1 hp=>by
  rw[B.Qq h h0 h1] at hp
  rw[B.ws h h0 h1];exact I.wf h h0 h1 hp
 tb:=fun{n d} h h3=>I.tb (B.bt h h3) h3
theorem Dr (B:fe g s s') {o p f:Int} {j:Nat} (h:c9 g s o p f j):c9 g s' o p f j:=
 ⟨h.1,by rw[B.Qq h.1 (eo p j).1 (eo p j).2];exact h.2⟩
theorem qM {r p:Int} (hp: ¬ (0<=p/\p<65536)):aV s r false p=(0,0,2,()):=by
 unfold aV
 rw[if_neg (by decide),if_pos (by omega)]
theorem cX (I:Inv g s) (B:fe g s s') {o r:Int} (hr:g r=some (o,3,0)) (p:Int):aV s' r false p=aV s r false p:=by
 by_cases hp:0<=p/\p<65536
 ·obtain⟨f,j, _,he⟩:=I.jH hr hp
  rw[I.fB hr hp he,(I.beside B).fB hr hp (Dr B he),B.Qq he.1 (eo p j).1 (eo p j).2]
 ·rw[qM hp,qM hp]
theorem lC (B:fe g s s') (h:xe g s):xe g s':=fun f o l x i hf h0 h1 hp ht=>by
 rw[B.Qq hf h0 h1] at hp ht
 exact h hf h0 h1 hp ht
theorem R7 (s:WD) (r:Int) {p:Int} (hp:0<=p/\p<65536):(aV s r false p).2.2.1=0\/aV s r false p=(0,0,4,()):=by
 unfold aV
 rw[if_neg (by decide),if_neg (by omega)]
 split
 ·exact .inl rfl
 ·exact .inr rfl
theorem Xh (I:Inv g s) (nl:xe g s) {o r p:Int} (hr:g r=some (o,3,0)) (hp:0<=p/\p<65536) (h:(aV s r false p).2.2.1=0): ∃f,c9 g s o p f 0/\(aC s.1 (16*f+px 0 p % 16)).1=true/\(di s.1 r p).2.1=0:=by
 obtain⟨f,j, _,he⟩:=I.jH hr hp
 rw[I.fB hr hp he] at h
 have wI:=zw h
 have hj:=nl he.1 (eo p j).1 (eo p j).2 wI he.2
 subst hj
 refine⟨f,he,wI,?_⟩
 rw[(I.j0 hr hp he).1];rfl
theorem Xi (I:Inv g s) (nl:xe g s) {o r p:Int} (hr:g r=some (o,3,0)) (hp:0<=p/\p<65536) (h:(aV s r false p).2.2.1=0):kf s o r p=0:=by
 obtain⟨_, _, _,e⟩:=I.Xh nl hr hp h
 unfold kf;rw[if_pos e]
theorem TM (I:Inv g s) (nl:xe g s) {o r p:Int} (hr:g r=some (o,3,0)) (hp:0<=p/\p<65536) (h:(aV s r false p).2.2.1=0):yW s o r false p=0:=by
 unfold yW;rw[if_pos h];exact I.Xi nl hr hp h
theorem JL (I:Inv g s) {o r p:Int} (hr:g r=some (o,3,0)) (h:(aV s r false p).2.2.1=0):(0<=p/\p<65536)/\0<=(aV s r false p).1:=by
 have hp:0<=p/\p<65536:=by
  by_cases hp:0<=p/\p<65536
  ·exact hp
  ·rw[qM hp] at h;exact absurd h (by decide)
 refine⟨hp,?_⟩
 obtain⟨f,j, _,he⟩:=I.jH hr hp
 rw[I.fB hr hp he] at h ⊢
 have wI:=zw h
 have Ff:=l_ s.1 (16*f+px j p % 16)
 unfold lM
 rw[if_pos wI]
 generalize aC s.1 (16*f+px j p % 16)=e at*
 obtain⟨ep,er,el,ef,eu⟩:=e
 dsimp only at wI Ff
 subst wI
 obtain⟨b1,b2,b3,b4,b5⟩:=j7.1 Ff
 dsimp only
 split<;>omega
end Inv
end Go.Proofs.YtdnoecpjcoibmaaGreat
namespace Go.Proofs.YtdnoecpjcoibmaaGreat
set_option maxRecDepth 100000
open Go.RX D
def jx {α:Type} (F:Nat->α) (v:Nat) (y:α):Nat->α:=fun i=>if i=v then y else F i
theorem jo {α:Type} (F:Nat->α) (v:Nat) (y:α):jx F v y v=y:=if_pos rfl
theorem lZ {α:Type} {F:Nat->α} {v i:Nat} (h:i≠v) (y:α):jx F v y i=F i:=if_neg h
theorem zy (F:Nat->Nat) (v y:Nat): ∀n,((List.range n).map (jx F v y)).sum+(if v<n then F v else 0)=((List.range n).map F).sum+(if v<n then y else 0)
 |0=>rfl
 |n+1=>by
  have ih:=zy F v y n
  rw[List.range_succ,List.map_append,List.map_append,List.sum_append,List.sum_append]
  simp only[List.map_cons,List.map_nil,List.sum_cons,List.sum_nil]
  by_cases h:v=n
  ·subst h
   rw[jo]
   rw[if_neg (Nat.lt_irrefl _),if_neg (Nat.lt_irrefl _)] at ih
   rw[if_pos (Nat.lt_succ_self _),if_pos (Nat.lt_succ_self _)]
   omega
  ·rw[lZ (fun e=>h e.symm)]
   by_cases h2:v<n
   ·rw[if_pos h2,if_pos h2] at ih
    rw[if_pos (by omega),if_pos (by omega)]
    omega
   ·rw[if_neg h2,if_neg h2] at ih
    rw[if_neg (by omega),if_neg (by omega)]
    omega
def kN (tk:Nat->List TK) (q:TK->Bool):Nat:=((List.range 17).map fun i=>(tk i).countP q).sum
theorem vF (tk:Nat->List TK) (q:TK->Bool) {v:Nat} (hv:v<17) (y:List TK):kN (jx tk v y) q+(tk v).countP q=kN tk q+y.countP q:=by
 have h:=zy (fun i=>(tk i).countP q) v (y.countP q) 17
 rw[if_pos hv,if_pos hv] at h
 have e:(fun i=>(jx tk v y i).countP q)=jx (fun i=>(tk i).countP q) v (y.countP q):=by
  funext i
  unfold jx
  split<;>rfl
 unfold kN
 rw[e]
 exact h
theorem vG {tk:Nat->List TK} {q:TK->Bool} (h:0<kN tk q): ∃i t,i<17/\t∈tk i/\q t=true:=by
 unfold kN at h
 have: ∀l:List Nat,0<(l.map fun i=>(tk i).countP q).sum-> ∃i t,i∈l/\t∈tk i/\q t=true:=by
  intro l
  induction l with
  |nil=>intro h;simp at h
  |cons i l ih=>
   intro h
   rw[List.map_cons,List.sum_cons] at h
   by_cases h1:0<(tk i).countP q
   ·obtain⟨t,ht,hq⟩:=List.countP_pos_iff.1 h1
    exact⟨i,t,List.mem_cons_self,ht,hq⟩
   ·obtain⟨j,t,hj,ht⟩:=ih (by omega)
    exact⟨j,t,List.mem_cons_of_mem _ hj,ht⟩
 obtain⟨i,t,hi,ht⟩:=this _ h
 exact⟨i,t,List.mem_range.1 hi,ht⟩
theorem sH {tk:Nat->List TK} {q:TK->Bool} (h: ∀i t,t∈tk i->q t=false):kN tk q=0:=by
 rcases Nat.eq_zero_or_pos (kN tk q) with e|e
 ·exact e
 ·obtain⟨i,t, _,ht,hq⟩:=vG e
  rw[h i t ht] at hq;cases hq
theorem l5 {tk:Nat->List TK} {q:TK->Bool} {i:Nat} {t:TK} (hi:i<17) (ht:t∈tk i) (hq:q t=true):0<kN tk q:=by
 have h:=vF tk q hi []
 have h2:0<(tk i).countP q:=List.countP_pos_iff.2 ⟨t,ht,hq⟩
 simp only[List.countP_nil] at h
 omega
def c_ (tk:Nat->List TK) (f:Int):Nat:=kN tk fun t=>t.2.2==f
def kW (tk:Nat->List TK) (a:Int):Nat:=kN tk fun t=>t.2.1==a
abbrev DH:Type:=Nat->Int->Option Int
def lN (fr:DH) (v:Nat) (p:Int) (y:Option Int):DH:=fun i q=>if i=v/\q=p then y else fr i q
theorem fq (fr:DH) (v:Nat) (p:Int) (y:Option Int):lN fr v p y v p=y:=if_pos ⟨rfl,rfl⟩
theorem aZ {fr:DH} {v i:Nat} {p q:Int} (h: ¬ (i=v/\q=p)) (y:Option Int):lN fr v p y i q=fr i q:=if_neg h
def MP (gr:List GT) (fr:DH) (tk:Nat->List TK) (a:Int) (i o:Nat) (f:Int):Prop:=
 ∃k x,jR gr a=some k/\gr[k]? =some x/\x.1=(o:Int)/\x.2.2.1=(i:Int)/\fr o x.2.1=some f/\a9 (tk o) x.2.1=none
structure HC (fr:DH) (tk:Nat->List TK) (ds:List DT) (gr:List GT):Prop where
 dom: ∀{i p f},fr i p=some f->1<=i/\i<=16/\0<=p/\p<65536
 kd: ∀{n:Nat} {d:DT},ds[n]? =some d->(d.1=0\/d.1=3\/d.1=4\/d.1=5)/\d.2.2.2.1=0/\0<=d.2.1/\d.2.1<=16
 Ib: ∀{n:Nat} {d:DT},ds[n]? =some d->d.1=4-> ∃(i:Nat) (p:Int),(i:Int)=d.2.1/\fr i p=some (n:Int)/\a9 (tk i) p=none
 own: ∀{i p f},fr i p=some f->a9 (tk i) p=none-> ∃(n:Nat) (d:DT),(n:Int)=f/\ds[n]? =some d/\d.1=4/\d.2.1=(i:Int)
 uJ: ∀{i p a f},a9 (tk i) p=some (a,f)->fr i p=some f/\ ∃o:Nat,o≠i/\MP gr fr tk a i o f
 nd: ∀i,((tk i).map (·.1)).Nodup
 inj: ∀{i p p' f},fr i p=some f->fr i p'=some f->a9 (tk i) p=none->a9 (tk i) p'=none->p=p'
 refs: ∀{n:Nat} {d:DT},ds[n]? =some d->d.2.2.1=(c_ tk (n:Int):Int)
 rV: ∀{n:Nat} {x:GT},gr[n]? =some x->x.2.2.2.2.1=(kW tk (n:Int):Int)
 gl:gr.length=16
 gk:kJ gr
theorem dZ {gr:List GT} {a:Int} {k:Nat}:jR gr a=some k<->(k:Int)=a/\k<gr.length/\gr.getD k zG≠zG:=by
 unfold jR
 constructor
 ·intro h
  split at h
  ·rename_i c
   cases h
   exact⟨by omega,by omega,c.2.2⟩
  ·cases h
 ·rintro⟨rfl,h1,h2⟩
  rw[if_pos ⟨by omega,by omega,h2⟩];rfl
theorem getD_some {gr:List GT} {k:Nat} {x:GT} (h:gr[k]? =some x):gr.getD k zG=x:=by
 rw[List.getD_eq_getElem?_getD,h];rfl
namespace HC
variable {fr:DH} {tk:Nat->List TK} {ds:List DT} {gr:List GT}
theorem Cc (H:HC fr tk ds gr) {i:Nat} {t:TK} (h:t∈tk i):a9 (tk i) t.1=some t.2:=(iD (a:=t.2.1) (b:=t.2.2) (H.nd i)).2 h
theorem Cd (H:HC fr tk ds gr) {i:Nat} {p a f:Int} (h:a9 (tk i) p=some (a,f)):(p,a,f)∈tk i:=(iD (H.nd i)).1 h
theorem Nb (H:HC fr tk ds gr) {i:Nat} {p a f:Int} (h:a9 (tk i) p=some (a,f)): ∃(n:Nat) (d:DT) (o:Nat),(n:Int)=f/\ds[n]? =some d/\d.1=4/\d.2.1=(o:Int)/\o≠i/\MP gr fr tk a i o f:=by
 obtain⟨_,o,ho,hg⟩:=H.uJ h
 obtain⟨k,x,h1,h2,h3,h4,h5,h6⟩:=hg
 obtain⟨n,d,e1,e2,e3,e4⟩:=H.own h5 h6
 exact⟨n,d,o,e1,e2,e3,e4,ho,k,x,h1,h2,h3,h4,h5,h6⟩
theorem X_ (H:HC fr tk ds gr) {i:Nat} {p f:Int} (h:fr i p=some f): ∃(n:Nat) (d:DT),(n:Int)=f/\ds[n]? =some d/\d.1=4:=by
 cases ht:a9 (tk i) p with
 |none=>
  obtain⟨n,d,h1,h2,h3, _⟩:=H.own h ht
  exact⟨n,d,h1,h2,h3⟩
 |some y=>
  obtain⟨a,f'⟩:=y
  obtain⟨n,d,o,h1,h2,h3, _⟩:=H.Nb ht
  have:=(H.uJ ht).1
  rw[h] at this
  cases this
  exact⟨n,d,h1,h2,h3⟩
theorem DX (H:HC fr tk ds gr) {n:Nat} (h:0<c_ tk (n:Int)): ∃d,ds[n]? =some d/\d.1=4:=by
 obtain⟨i,t, _,ht,hq⟩:=vG h
 obtain⟨m,d,o,h1,h2,h3, _⟩:=H.Nb (H.Cc ht)
 have e0:t.2.2=(n:Int):=by simpa using hq
 have e:m=n:=Int.ofNat.inj (h1.trans e0)
 subst e
 exact⟨d,h2,h3⟩
theorem Cr (H:HC fr tk ds gr) {ds':List DT} (hk: ∀{n:Nat} {d:DT},ds[n]? =some d->d.1=4->ds'[n]? =some d) (hn: ∀{n:Nat} {d:DT},ds'[n]? =some d->ds[n]? =some d\/((d.1=0\/d.1=3\/d.1=5)/\d.2.2=(0,0,())/\0<=d.2.1/\d.2.1<=16)):HC fr tk ds' gr:=by
 have hno: ∀{n:Nat} {d:DT},ds'[n]? =some d->(d.1=0\/d.1=3\/d.1=5)->c_ tk (n:Int)=0:=fun{n d} h h2=>by
  rcases Nat.eq_zero_or_pos (c_ tk (n:Int)) with e|e
  ·exact e
  ·obtain⟨d',h3,h4⟩:=H.DX e
   have:=hk h3 h4
   rw[h] at this
   cases this
   omega
 refine⟨H.dom,fun{n d} h=>?_,fun{n d} h h4=>?_,fun{i p f} h ht=>?_,H.uJ,H.nd,H.inj,fun{n d} h=>?_,H.rV,H.gl,H.gk⟩
 ·rcases hn h with h1|⟨h1,h2,h3⟩
  ·exact H.kd h1
  ·exact⟨by omega,by rw[h2],h3⟩
 ·rcases hn h with h1|⟨h1,h2⟩
  ·exact H.Ib h1 h4
  ·omega
 ·obtain⟨n,d,h1,h2,h3,h4⟩:=H.own h ht
  exact⟨n,d,h1,hk h2 h3,h3,h4⟩
 ·rcases hn h with h1|⟨h1,h2, _⟩
  ·exact H.refs h1
  ·rw[hno h h1,h2];rfl
theorem JM (H:HC fr tk ds gr) {wG:List GT} (hl:wG.length=gr.length) (hok:kJ wG) (hu: ∀{n:Nat} {x y:GT},gr[n]? =some x->wG[n]? =some y->y.2.2.2.2.1=x.2.2.2.2.1) (hs: ∀{n:Nat} {x:GT},gr[n]? =some x->x.2.2.2.2.1>0->wG[n]? =some x):HC fr tk ds wG:=by
 refine⟨H.dom,H.kd,H.Ib,H.own,fun{i p a f} h=>?_,H.nd,H.inj,H.refs,fun{n y} h=>?_,hl.trans H.gl,hok⟩
 ·obtain⟨h1,o,h2,k,x,h3,h4,h5⟩:=H.uJ h
  refine⟨h1,o,h2,k,x,?_,?_,h5⟩
  ·obtain⟨e1,e2,e3⟩:=dZ.1 h3
   refine dZ.2 ⟨e1,by omega,?_⟩
   have hp:x.2.2.2.2.1>0:=by
    rw[H.rV h4]
    have:=l5 (q:=fun t=>t.2.1==(k:Int)) (by have:=H.dom h1;omega:i<17) (H.Cd h) (by simp[e1])
    unfold kW;omega
   rw[getD_some (hs h4 hp)]
   rw[getD_some h4] at e3
   exact e3
  ·refine hs h4 ?_
   obtain⟨e1, _⟩:=dZ.1 h3
   rw[H.rV h4]
   have:=l5 (q:=fun t=>t.2.1==(k:Int)) (by have:=H.dom h1;omega:i<17) (H.Cd h) (by simp[e1])
   unfold kW;omega
 ·have hn:n<gr.length:=by rw[<-hl];exact(List.getElem?_eq_some_iff.1 h).1
  have hx:gr[n]? =some gr[n]:=List.getElem?_eq_getElem hn
  rw[hu hx h]
  exact H.rV hx
end HC
end Go.Proofs.YtdnoecpjcoibmaaGreat
namespace Go.Proofs.YtdnoecpjcoibmaaGreat
set_option maxRecDepth 100000
open Go.RX D
theorem jq (t:TK) (l:List TK) (p:Int):a9 (t::l) p=if t.1=p then some t.2 else a9 l p:=by
 unfold a9
 rw[List.find?_cons]
 by_cases e:t.1=p
 ·rw[if_pos e,show(t.1==p)=true by simpa using e];rfl
 ·rw[if_neg e,show(t.1==p)=false by simpa using e]
theorem Hq {l l':List TK} (h:l.Perm l') (nd:(l.map (·.1)).Nodup) (p:Int):a9 l p=a9 l' p:=by
 have ZL:(l'.map (·.1)).Nodup:=(h.map _).nodup_iff.1 nd
 cases h1:a9 l p with
 |some x=>
  have:=(iD (a:=x.1) (b:=x.2) nd).1 h1
  exact((iD (a:=x.1) (b:=x.2) ZL).2 (h.mem_iff.1 this)).symm
 |none=>
  symm
  rw[oo] at h1 ⊢
  exact fun t ht=>h1 t (h.mem_iff.2 ht)
theorem JN {t:TK} {l:List TK} (hn:a9 l t.1=none) (nd:(l.map (·.1)).Nodup):((ki t l).map (·.1)).Nodup:=by
 refine((lB t l).map _).nodup_iff.2 (List.nodup_cons.2 ⟨fun hm=>?_,nd⟩)
 obtain⟨x,hx,e⟩:=List.mem_map.1 hm
 exact oo.1 hn x hx e
theorem Mi {t:TK} {l:List TK} (hn:a9 l t.1=none) (nd:(l.map (·.1)).Nodup) (p:Int):a9 (ki t l) p=if t.1=p then some t.2 else a9 l p:=by
 rw[Hq (lB t l) (JN hn nd),jq]
theorem Hs (l:List TK) (b p:Int):a9 (l.filter fun t=> !(t.1==b)) p=if p=b then none else a9 l p:=by
 induction l with
 |nil=>unfold a9;simp
 |cons t l ih=>
  rw[List.filter_cons]
  by_cases e:t.1=b
  ·rw[if_neg (by simp[e]),ih,jq]
   by_cases e2:p=b
   ·rw[if_pos e2,if_pos e2]
   ·rw[if_neg e2,if_neg e2,if_neg (fun h=>e2 (h.symm.trans e))]
  ·rw[if_pos (by simpa using e),jq,jq,ih]
   by_cases e2:t.1=p
   ·rw[if_pos e2,if_pos e2,if_neg (fun h=>e (e2.trans h))]
   ·rw[if_neg e2,if_neg e2]
theorem yw {l:List TK} {b:Int} {x:Int×Int} (nd:(l.map (·.1)).Nodup) (h:a9 l b=some x):l.Perm ((b,x)::l.filter fun t=> !(t.1==b)):=by
 induction l with
 |nil=>unfold a9 at h;simp at h
 |cons t l ih=>
  rw[List.map_cons,List.nodup_cons] at nd
  rw[jq] at h
  rw[List.filter_cons]
  by_cases e:t.1=b
  ·rw[if_pos e] at h
   cases h
   rw[if_neg (by simp[e])]
   have hl:l.filter (fun t=> !(t.1==b))=l:=List.filter_eq_self.2 fun u hu=>by
    have:u.1≠b:=fun e2=>nd.1 (List.mem_map.2 ⟨u,hu,e2.trans e.symm⟩)
    simpa using this
   rw[hl, <-e]
  ·rw[if_neg e] at h
   rw[if_pos (by simpa using e)]
   exact((ih nd.2 h).cons t).trans (.swap _ _ _)
theorem OV (q:TK->Bool) (t:TK) (l:List TK):(ki t l).countP q=l.countP q+(if q t=true then 1 else 0):=by
 rw[(lB t l).countP_eq,List.countP_cons]
theorem Mj {l:List TK} {b:Int} {x:Int×Int} (nd:(l.map (·.1)).Nodup) (h:a9 l b=some x) (q:TK->Bool):l.countP q=(l.filter fun t=> !(t.1==b)).countP q+(if q (b,x)=true then 1 else 0):=by
 rw[(yw nd h).countP_eq,List.countP_cons]
theorem OW {l:List TK} (b:Int) (nd:(l.map (·.1)).Nodup):((l.filter fun t=> !(t.1==b)).map (·.1)).Nodup:=(List.filter_sublist.map _).nodup nd
theorem zz {gr:List GT} {k j:Nat} {x y:GT} {a:Int} (hx:gr[k]? =some x) (hy:y≠zG) (h:jR gr a=some j):jR (gr.set k y) a=some j:=by
 obtain⟨h1,h2,h3⟩:=dZ.1 h
 refine dZ.2 ⟨h1,by rw[List.length_set];exact h2,?_⟩
 rw[List.getD_eq_getElem?_getD]
 by_cases e:k=j
 ·subst e
  rw[List.getElem?_set_self h2];exact hy
 ·rw[List.getElem?_set_ne e, <-List.getD_eq_getElem?_getD];exact h3
theorem uC {gr:List GT} (hok:kJ gr) {k:Nat} {x:GT} (hx:gr[k]? =some x) (hz:x≠zG) (n:Int):eV x n≠zG:=fun e=>by
 rcases(hok x (List.mem_of_getElem? hx)).1 with h|⟨h, _⟩
 ·exact hz h
 ·have:(eV x n).1=zG.1:=congrArg (·.1) e
  have:x.1=0:=this
  omega
namespace HC
variable {fr:DH} {tk:Nat->List TK} {ds:List DT} {gr:List GT}
theorem QX (H:HC fr tk ds gr) {i:Nat} {p:Int} (h:fr i p=none):a9 (tk i) p=none:=by
 cases ht:a9 (tk i) p with
 |none=>rfl
 |some y=>
  have:=(H.uJ (a:=y.1) (f:=y.2) ht).1
  rw[h] at this;cases this
theorem Cs (H:HC fr tk ds gr) {v n:Nat} {a:Int} {d0:DT} (hv:1<=v/\v<=16) (ha:0<=a/\a<65536) (hn:ds[n]? =some d0) (h0:d0.1=0) (hf:fr v a=none):
 HC (lN fr v a (some (n:Int))) tk (ds.set n (4,(v:Int),0,0,())) gr:=by
 have qn:n<ds.length:=(List.getElem?_eq_some_iff.1 hn).1
 have Te: ∀{d},ds[n]? =some d->d.1=4->False:=fun{d} h h4=>by rw[hn] at h;cases h;omega
 have Qr:c_ tk (n:Int)=0:=by
  rcases Nat.eq_zero_or_pos (c_ tk (n:Int)) with e|e
  ·exact e
  ·obtain⟨d,h1,h2⟩:=H.DX e
   exact(Te h1 h2).elim
 have hne: ∀{i p f},fr i p=some f-> ¬ (i=v/\p=a):=fun{i p f} h e=>by rw[e.1,e.2,hf] at h;cases h
 have SK: ∀{i p},fr i p=some (n:Int)->False:=fun{i p} h=>by
  obtain⟨m,d,h1,h2,h3⟩:=H.X_ h
  have:m=n:=Int.ofNat.inj h1
  subst this
  exact Te h2 h3
 refine⟨fun{i p f} h=>?_,fun{m d} h=>?_,fun{m d} h h4=>?_,fun{i p f} h ht=>?_,fun{i p b f} h=>?_,H.nd,fun{i p p' f} h h' ht ht'=>?_,fun{m d} h=>?_,H.rV,H.gl,H.gk⟩
 ·by_cases e:i=v/\p=a
  ·obtain⟨rfl,rfl⟩:=e;exact⟨hv.1,hv.2,ha⟩
  ·rw[aZ e] at h;exact H.dom h
 ·by_cases e:n=m
  ·subst e
   rw[List.getElem?_set_self qn] at h;cases h
   exact⟨.inr (.inr (.inl rfl)),rfl,by show 0<=(v:Int);omega,by show(v:Int)<=16;omega⟩
  ·rw[List.getElem?_set_ne e] at h;exact H.kd h
 ·by_cases e:n=m
  ·subst e
   rw[List.getElem?_set_self qn] at h;cases h
   exact⟨v,a,rfl,fq _ _ _ _,H.QX hf⟩
  ·rw[List.getElem?_set_ne e] at h
   obtain⟨i,p,h1,h2,h3⟩:=H.Ib h h4
   exact⟨i,p,h1,by rw[aZ (hne h2)];exact h2,h3⟩
 ·by_cases e:i=v/\p=a
  ·obtain⟨rfl,rfl⟩:=e
   rw[fq] at h;cases h
   exact⟨n, _,rfl,List.getElem?_set_self qn,rfl,rfl⟩
  ·rw[aZ e] at h
   obtain⟨m,d,h1,h2,h3,h4⟩:=H.own h ht
   refine⟨m,d,h1,?_,h3,h4⟩
   rw[List.getElem?_set_ne (fun e=>by subst e;exact Te h2 h3)];exact h2
 ·obtain⟨h1,o,h2,k,x,h3,h4,h5,h6,h7,h8⟩:=H.uJ h
  exact⟨by rw[aZ (hne h1)];exact h1,o,h2,k,x,h3,h4,h5,h6,by rw[aZ (hne h7)];exact h7,h8⟩
 ·by_cases e:i=v/\p=a
  ·obtain⟨rfl,rfl⟩:=e
   rw[fq] at h;cases h
   by_cases e':p'=p
   ·exact e'.symm
   ·rw[aZ (fun c=>e' c.2)] at h'
    exact(SK h').elim
  ·rw[aZ e] at h
   by_cases e':i=v/\p'=a
   ·obtain⟨rfl,rfl⟩:=e'
    rw[fq] at h';cases h'
    exact(SK h).elim
   ·rw[aZ e'] at h'
    exact H.inj h h' ht ht'
 ·by_cases e:n=m
  ·subst e
   rw[List.getElem?_set_self qn] at h;cases h
   rw[Qr];rfl
  ·rw[List.getElem?_set_ne e] at h;exact H.refs h
theorem zA (H:HC fr tk ds gr) {v n:Nat} {a o:Int} (ZM:0<=o/\o<=16) (hf:fr v a=some (n:Int)) (ht:a9 (tk v) a=none) (hr:c_ tk (n:Int)=0):
 HC (lN fr v a none) tk (ds.set n (5,o,0,0,())) gr:=by
 obtain⟨n',d0,e1,hn,h4,ho⟩:=H.own hf ht
 have e1:n'=n:=Int.ofNat.inj e1
 subst e1
 have qn:n'<ds.length:=(List.getElem?_eq_some_iff.1 hn).1
 have hnt: ∀{i p b f},a9 (tk i) p=some (b,f)->f≠(n':Int):=fun{i p b f} h e=>by
  have hd:=H.dom (H.uJ h).1
  have:=l5 (q:=fun t=>t.2.2==(n':Int)) (by omega:i<17) (H.Cd h) (by simp[e])
  unfold c_ at hr;omega
 refine⟨fun{i p f} h=>?_,fun{m d} h=>?_,fun{m d} h k4=>?_,fun{i p f} h kt=>?_,fun{i p b f} h=>?_,H.nd,fun{i p p' f} h h' kt ZN=>?_,fun{m d} h=>?_,H.rV,H.gl,H.gk⟩
 ·by_cases e:i=v/\p=a
  ·obtain⟨rfl,rfl⟩:=e;rw[fq] at h;cases h
  ·rw[aZ e] at h;exact H.dom h
 ·by_cases e:n'=m
  ·subst e
   rw[List.getElem?_set_self qn] at h;cases h
   exact⟨.inr (.inr (.inr rfl)),rfl,ZM⟩
  ·rw[List.getElem?_set_ne e] at h;exact H.kd h
 ·by_cases e:n'=m
  ·subst e
   rw[List.getElem?_set_self qn] at h;cases h
   exact absurd k4 (show ¬ (5:Int)=4 by decide)
  ·rw[List.getElem?_set_ne e] at h
   obtain⟨i,p,h1,h2,h3⟩:=H.Ib h k4
   refine⟨i,p,h1,?_,h3⟩
   rw[aZ (fun c=>?_)]
   ·exact h2
   ·rw[c.1,c.2,hf] at h2
    cases h2
    exact e rfl
 ·by_cases e:i=v/\p=a
  ·obtain⟨rfl,rfl⟩:=e;rw[fq] at h;cases h
  ·rw[aZ e] at h
   obtain⟨m,d,h1,h2,h3,h5⟩:=H.own h kt
   refine⟨m,d,h1,?_,h3,h5⟩
   by_cases em:n'=m
   ·subst em
    rw[hn] at h2;cases h2
    rw[ho] at h5
    have ev:v=i:=Int.ofNat.inj h5
    subst ev
    rw[<-h1] at h
    exact absurd ⟨rfl,H.inj h hf kt ht⟩ e
   ·rw[List.getElem?_set_ne em];exact h2
 ·obtain⟨h1,o',h2,k,x,h3,h5,h6,h7,h8,h9⟩:=H.uJ h
  refine⟨?_,o',h2,k,x,h3,h5,h6,h7,?_,h9⟩
  ·rw[aZ (fun c=>?_)]
   ·exact h1
   ·rw[c.1,c.2,ht] at h;cases h
  ·rw[aZ (fun c=>?_)]
   ·exact h8
   ·rw[c.1,c.2,hf] at h8
    cases h8
    exact hnt h rfl
 ·by_cases e:i=v/\p=a
  ·obtain⟨rfl,rfl⟩:=e;rw[fq] at h;cases h
  ·rw[aZ e] at h
   by_cases e':i=v/\p'=a
   ·obtain⟨rfl,rfl⟩:=e';rw[fq] at h';cases h'
   ·rw[aZ e'] at h'
    exact H.inj h h' kt ZN
 ·by_cases e:n'=m
  ·subst e
   rw[List.getElem?_set_self qn] at h;cases h
   rw[hr];rfl
  ·rw[List.getElem?_set_ne e] at h;exact H.refs h
end HC
end Go.Proofs.YtdnoecpjcoibmaaGreat
namespace Go.Proofs.YtdnoecpjcoibmaaGreat
set_option maxRecDepth 100000
open Go.RX D
namespace HC
variable {fr:DH} {tk:Nat->List TK} {ds:List DT} {gr:List GT}
theorem take (H:HC fr tk ds gr) {v o n k:Nat} {b:Int} {x:GT} {d0:DT} (hb:0<=b/\b<65536) (hf:fr v b=none) (hn:ds[n]? =some d0) (hx:gr[k]? =some x) (hz:x≠zG) (MQ:x.1=(o:Int)) (Ya:x.2.2.1=(v:Int)) (hq:fr o x.2.1=some (n:Int)) (ZO:a9 (tk o) x.2.1=none)
 (hok:kJ (gr.set k (eV x 1))):
 HC (lN fr v b (some (n:Int))) (jx tk v (ki (b,(k:Int),(n:Int)) (tk v))) (ds.set n (d0.1,d0.2.1,d0.2.2.1+1,d0.2.2.2.1,())) (gr.set k (eV x 1)):=by
 have qn:n<ds.length:=(List.getElem?_eq_some_iff.1 hn).1
 have MB:k<gr.length:=(List.getElem?_eq_some_iff.1 hx).1
 obtain⟨rv,ro,SA⟩:(1<=v/\v<=16)/\(1<=o/\o<=16)/\o≠v:=by
  rcases(H.gk x (List.mem_of_getElem? hx)).1 with h|⟨h1,h2,h3, _⟩
  ·exact absurd h hz
  ·rw[MQ] at h1 h3;rw[Ya] at h2 h3
   exact⟨by omega,by omega,fun e=>h3 (by rw[e])⟩
 have hne: ∀{i p f},fr i p=some f-> ¬ (i=v/\p=b):=fun{i p f} h e=>by rw[e.1,e.2,hf] at h;cases h
 have Yb:a9 (tk v) b=none:=H.QX hf
 have iK: ∀i p,a9 (jx tk v (ki (b,(k:Int),(n:Int)) (tk v)) i) p=if i=v/\p=b then some ((k:Int),(n:Int)) else a9 (tk i) p:=fun i p=>by
  by_cases e:i=v
  ·subst e
   rw[jo,Mi Yb (H.nd _)]
   by_cases e2:p=b
   ·rw[if_pos e2.symm,if_pos ⟨rfl,e2⟩]
   ·rw[if_neg (fun h=>e2 h.symm),if_neg (fun h=>e2 h.2)]
  ·rw[lZ e,if_neg (fun h=>e h.1)]
 have hds: ∀{m:Nat} {d:DT},ds[m]? =some d-> ∃d':DT,(ds.set n (d0.1,d0.2.1,d0.2.2.1+1,d0.2.2.2.1,()))[m]? =some d'/\d'.1=d.1/\d'.2.1=d.2.1:=fun{m d} h=>by
  by_cases e:n=m
  ·subst e
   rw[hn] at h;cases h
   exact⟨_,List.getElem?_set_self qn,rfl,rfl⟩
  ·exact⟨d,by rw[List.getElem?_set_ne e];exact h,rfl,rfl⟩
 have Ce: ∀{m:Nat} {d':DT},(ds.set n (d0.1,d0.2.1,d0.2.2.1+1,d0.2.2.2.1,()))[m]? =some d'-> ∃d:DT,ds[m]? =some d/\d'.1=d.1/\d'.2.1=d.2.1/\d'.2.2.2.1=d.2.2.2.1/\d'.2.2.1=d.2.2.1+(if m=n then 1 else 0):=fun{m d'} h=>by
  by_cases e:n=m
  ·subst e
   rw[List.getElem?_set_self qn] at h;cases h
   exact⟨d0,hn,rfl,rfl,rfl,by rw[if_pos rfl]⟩
  ·rw[List.getElem?_set_ne e] at h
   exact⟨d',h,rfl,rfl,rfl,by rw[if_neg (fun c=>e c.symm)];omega⟩
 have EY: ∀{a:Int} {i o':Nat} {f:Int},MP gr fr tk a i o' f->MP (gr.set k (eV x 1)) (lN fr v b (some (n:Int))) (jx tk v (ki (b,(k:Int),(n:Int)) (tk v))) a i o' f:=by
  rintro a i o' f ⟨j,y,h1,h2,h3,h4,h5,h6⟩
  have xd:=zz hx (uC H.gk hx hz 1) h1
  have Tf:a9 (jx tk v (ki (b,(k:Int),(n:Int)) (tk v)) o') y.2.1=none:=by
   rw[iK,if_neg (hne h5)];exact h6
  by_cases e:k=j
  ·subst e
   rw[hx] at h2;cases h2
   exact⟨k,eV x 1,xd,List.getElem?_set_self MB,h3,h4,by show lN fr v b _ o' x.2.1= _;rw[aZ (hne h5)];exact h5,Tf⟩
  ·exact⟨j,y,xd,by rw[List.getElem?_set_ne e];exact h2,h3,h4,by rw[aZ (hne h5)];exact h5,Tf⟩
 have yX: ∀q:TK->Bool,kN (jx tk v (ki (b,(k:Int),(n:Int)) (tk v))) q=kN tk q+(if q (b,(k:Int),(n:Int))=true then 1 else 0):=fun q=>by
  have h1:=vF tk q (by omega:v<17) (ki (b,(k:Int),(n:Int)) (tk v))
  rw[OV] at h1
  omega
 refine⟨fun{i p f} h=>?_,fun{m d} h=>?_,fun{m d} h h4=>?_,fun{i p f} h ht=>?_,fun{i p c f} h=>?_,fun i=>?_,fun{i p p' f} h h' ht ht'=>?_,fun{m d} h=>?_,fun{m y} h=>?_,by rw[List.length_set];exact H.gl,hok⟩
 ·by_cases e:i=v/\p=b
  ·obtain⟨rfl,rfl⟩:=e;exact⟨rv.1,rv.2,hb⟩
  ·rw[aZ e] at h;exact H.dom h
 ·obtain⟨d',h1,h2,h3,h5, _⟩:=Ce h
  rw[h2,h5,h3];exact H.kd h1
 ·obtain⟨d',h1,h2,h3, _⟩:=Ce h
  obtain⟨i,p,k1,k2,k3⟩:=H.Ib h1 (by rw[<-h2];exact h4)
  exact⟨i,p,by rw[h3];exact k1,by rw[aZ (hne k2)];exact k2,by rw[iK,if_neg (hne k2)];exact k3⟩
 ·by_cases e:i=v/\p=b
  ·rw[iK,if_pos e] at ht;cases ht
  ·rw[aZ e] at h
   rw[iK,if_neg e] at ht
   obtain⟨m,d,h1,h2,h3,h4⟩:=H.own h ht
   obtain⟨d',k1,k2,k3⟩:=hds h2
   exact⟨m,d',h1,k1,by rw[k2];exact h3,by rw[k3];exact h4⟩
 ·rw[iK] at h
  by_cases e:i=v/\p=b
  ·rw[if_pos e] at h
   cases h
   obtain⟨rfl,rfl⟩:=e
   refine⟨fq _ _ _ _,o,SA,k,eV x 1,?_,List.getElem?_set_self MB,MQ,Ya,?_,?_⟩
   ·exact zz hx (uC H.gk hx hz 1) (dZ.2 ⟨rfl,MB,by rw[getD_some hx];exact hz⟩)
   ·show lN fr i p _ o x.2.1= _
    rw[aZ (fun c=>SA c.1)];exact hq
   ·show a9 (jx tk i _ o) x.2.1=none
    rw[lZ SA];exact ZO
  ·rw[if_neg e] at h
   obtain⟨h1,o',h2,h3⟩:=H.uJ h
   exact⟨by rw[aZ e];exact h1,o',h2,EY h3⟩
 ·by_cases e:i=v
  ·subst e;rw[jo];exact JN Yb (H.nd _)
  ·rw[lZ e];exact H.nd i
 ·have e: ¬ (i=v/\p=b):=fun c=>by rw[iK,if_pos c] at ht;cases ht
  have e': ¬ (i=v/\p'=b):=fun c=>by rw[iK,if_pos c] at ht';cases ht'
  rw[iK,if_neg e] at ht
  rw[iK,if_neg e'] at ht'
  rw[aZ e] at h
  rw[aZ e'] at h'
  exact H.inj h h' ht ht'
 ·obtain⟨d',h1, _, _, _,h5⟩:=Ce h
  rw[h5,H.refs h1]
  unfold c_
  rw[yX]
  dsimp only
  by_cases e:m=n
  ·subst e
   rw[if_pos rfl,if_pos (by simp)];omega
  ·rw[if_neg e,if_neg (by simp;omega)];omega
 ·have e2:kW (jx tk v (ki (b,(k:Int),(n:Int)) (tk v))) (m:Int)=kW tk (m:Int)+(if k=m then 1 else 0):=by
   unfold kW
   rw[yX]
   dsimp only
   by_cases e:k=m
   ·subst e;rw[if_pos rfl,if_pos (by simp)]
   ·rw[if_neg e,if_neg (by simp;omega)]
  rw[e2]
  by_cases e:k=m
  ·subst e
   rw[List.getElem?_set_self MB] at h;cases h
   rw[if_pos rfl]
   have:=H.rV hx
   show x.2.2.2.2.1+1= _
   omega
  ·rw[List.getElem?_set_ne e] at h
   rw[if_neg e]
   have:=H.rV h
   omega
theorem B_ (H:HC fr tk ds gr) {v n k:Nat} {b:Int} {x:GT} {d0:DT} (Wi:a9 (tk v) b=some ((k:Int),(n:Int))) (hn:ds[n]? =some d0) (hx:gr[k]? =some x) (hz:x≠zG)
 (hok:kJ (gr.set k (eV x (-1)))):
 HC (lN fr v b none) (jx tk v ((tk v).filter fun t=> !(t.1==b))) (ds.set n (d0.1,d0.2.1,d0.2.2.1 - 1,d0.2.2.2.1,())) (gr.set k (eV x (-1))):=by
 have qn:n<ds.length:=(List.getElem?_eq_some_iff.1 hn).1
 have MB:k<gr.length:=(List.getElem?_eq_some_iff.1 hx).1
 have hd:=H.dom (H.uJ Wi).1
 have iK: ∀i p,a9 (jx tk v ((tk v).filter fun t=> !(t.1==b)) i) p=if i=v/\p=b then none else a9 (tk i) p:=fun i p=>by
  by_cases e:i=v
  ·subst e
   rw[jo,Hs]
   by_cases e2:p=b
   ·rw[if_pos e2,if_pos ⟨rfl,e2⟩]
   ·rw[if_neg e2,if_neg (fun h=>e2 h.2)]
  ·rw[lZ e,if_neg (fun h=>e h.1)]
 have Aq: ∀{i p},a9 (tk i) p=none-> ¬ (i=v/\p=b):=fun{i p} h e=>by rw[e.1,e.2,Wi] at h;cases h
 have hds: ∀{m:Nat} {d:DT},ds[m]? =some d-> ∃d':DT,(ds.set n (d0.1,d0.2.1,d0.2.2.1 - 1,d0.2.2.2.1,()))[m]? =some d'/\d'.1=d.1/\d'.2.1=d.2.1:=fun{m d} h=>by
  by_cases e:n=m
  ·subst e
   rw[hn] at h;cases h
   exact⟨_,List.getElem?_set_self qn,rfl,rfl⟩
  ·exact⟨d,by rw[List.getElem?_set_ne e];exact h,rfl,rfl⟩
 have Ce: ∀{m:Nat} {d':DT},(ds.set n (d0.1,d0.2.1,d0.2.2.1 - 1,d0.2.2.2.1,()))[m]? =some d'-> ∃d:DT,ds[m]? =some d/\d'.1=d.1/\d'.2.1=d.2.1/\d'.2.2.2.1=d.2.2.2.1/\d'.2.2.1=d.2.2.1 - (if m=n then 1 else 0):=fun{m d'} h=>by
  by_cases e:n=m
  ·subst e
   rw[List.getElem?_set_self qn] at h;cases h
   exact⟨d0,hn,rfl,rfl,rfl,by rw[if_pos rfl]⟩
  ·rw[List.getElem?_set_ne e] at h
   exact⟨d',h,rfl,rfl,rfl,by rw[if_neg (fun c=>e c.symm)];omega⟩
 have EY: ∀{a:Int} {i o':Nat} {f:Int},MP gr fr tk a i o' f->MP (gr.set k (eV x (-1))) (lN fr v b none) (jx tk v ((tk v).filter fun t=> !(t.1==b))) a i o' f:=by
  rintro a i o' f ⟨j,y,h1,h2,h3,h4,h5,h6⟩
  have xd:=zz hx (uC H.gk hx hz (-1)) h1
  have Tf:a9 (jx tk v ((tk v).filter fun t=> !(t.1==b)) o') y.2.1=none:=by
   rw[iK,if_neg (Aq h6)];exact h6
  by_cases e:k=j
  ·subst e
   rw[hx] at h2;cases h2
   exact⟨k,eV x (-1),xd,List.getElem?_set_self MB,h3,h4,by show lN fr v b _ o' x.2.1= _;rw[aZ (Aq h6)];exact h5,Tf⟩
  ·exact⟨j,y,xd,by rw[List.getElem?_set_ne e];exact h2,h3,h4,by rw[aZ (Aq h6)];exact h5,Tf⟩
 have yX: ∀q:TK->Bool,kN (jx tk v ((tk v).filter fun t=> !(t.1==b))) q+(if q (b,(k:Int),(n:Int))=true then 1 else 0)=kN tk q:=fun q=>by
  have h1:=vF tk q (by omega:v<17) ((tk v).filter fun t=> !(t.1==b))
  have h2:=Mj (H.nd v) Wi q
  omega
 refine⟨fun{i p f} h=>?_,fun{m d} h=>?_,fun{m d} h h4=>?_,fun{i p f} h ht=>?_,fun{i p c f} h=>?_,fun i=>?_,fun{i p p' f} h h' ht ht'=>?_,fun{m d} h=>?_,fun{m y} h=>?_,by rw[List.length_set];exact H.gl,hok⟩
 ·by_cases e:i=v/\p=b
  ·rw[show lN fr v b none i p=none from if_pos e] at h;cases h
  ·rw[aZ e] at h;exact H.dom h
 ·obtain⟨d',h1,h2,h3,h5, _⟩:=Ce h
  rw[h2,h5,h3];exact H.kd h1
 ·obtain⟨d',h1,h2,h3, _⟩:=Ce h
  obtain⟨i,p,k1,k2,k3⟩:=H.Ib h1 (by rw[<-h2];exact h4)
  exact⟨i,p,by rw[h3];exact k1,by rw[aZ (Aq k3)];exact k2,by rw[iK,if_neg (Aq k3)];exact k3⟩
 ·by_cases e:i=v/\p=b
  ·rw[show lN fr v b none i p=none from if_pos e] at h;cases h
  ·rw[aZ e] at h
   rw[iK,if_neg e] at ht
   obtain⟨m,d,h1,h2,h3,h4⟩:=H.own h ht
   obtain⟨d',k1,k2,k3⟩:=hds h2
   exact⟨m,d',h1,k1,by rw[k2];exact h3,by rw[k3];exact h4⟩
 ·rw[iK] at h
  by_cases e:i=v/\p=b
  ·rw[if_pos e] at h;cases h
  ·rw[if_neg e] at h
   obtain⟨h1,o',h2,h3⟩:=H.uJ h
   exact⟨by rw[aZ e];exact h1,o',h2,EY h3⟩
 ·by_cases e:i=v
  ·subst e;rw[jo];exact OW _ (H.nd _)
  ·rw[lZ e];exact H.nd i
 ·have e: ¬ (i=v/\p=b):=fun c=>by rw[show lN fr v b none i p=none from if_pos c] at h;cases h
  have e': ¬ (i=v/\p'=b):=fun c=>by rw[show lN fr v b none i p'=none from if_pos c] at h';cases h'
  rw[iK,if_neg e] at ht
  rw[iK,if_neg e'] at ht'
  rw[aZ e] at h
  rw[aZ e'] at h'
  exact H.inj h h' ht ht'
 ·obtain⟨d',h1, _, _, _,h5⟩:=Ce h
  have:=yX fun t=>t.2.2==(m:Int)
  rw[h5,H.refs h1]
  unfold c_
  dsimp only at this
  by_cases e:m=n
  ·subst e
   rw[if_pos (by simp)] at this
   rw[if_pos rfl];omega
  ·rw[if_neg (by simp;omega)] at this
   rw[if_neg e];omega
 ·have e2:kW (jx tk v ((tk v).filter fun t=> !(t.1==b))) (m:Int)+(if k=m then 1 else 0)=kW tk (m:Int):=by
   have:=yX fun t=>t.2.1==(m:Int)
   dsimp only at this
   unfold kW
   by_cases e:k=m
   ·subst e;rw[if_pos (by simp)] at this;rw[if_pos rfl];exact this
   ·rw[if_neg (by simp;omega)] at this;rw[if_neg e];exact this
  by_cases e:k=m
  ·subst e
   rw[List.getElem?_set_self MB] at h;cases h
   rw[if_pos rfl] at e2
   have:=H.rV hx
   show x.2.2.2.2.1+ -1= _
   omega
  ·rw[List.getElem?_set_ne e] at h
   rw[if_neg e] at e2
   have:=H.rV h
   omega
theorem gone (H:HC fr tk ds gr) {v:Nat} {ds':List DT} (hv:1<=v/\v<=16) (iK:tk v=[]) (hr: ∀{n:Nat} {d:DT},ds[n]? =some d->d.1=4->d.2.1=(v:Int)->d.2.2.1=0)
 (hk: ∀{n:Nat} {d:DT},ds[n]? =some d->d.1=4->d.2.1≠(v:Int)->ds'[n]? =some d)
 (hn: ∀{n:Nat} {d:DT},ds'[n]? =some d->(ds[n]? =some d/\ ¬ (d.1=4/\d.2.1=(v:Int)))\/((d.1=0\/d.1=3\/d.1=5)/\d.2.2=(0,0,())/\0<=d.2.1/\d.2.1<=16))
 (hok:kJ (cn gr (v:Int))):
 HC (fun i p=>if i=v then none else fr i p) tk ds' (cn gr (v:Int)):=by
 have Wj: ∀{i p b f},a9 (tk i) p=some (b,f)->i≠v:=fun{i p b f} h e=>by
  subst e;rw[iK] at h;unfold a9 at h;simp at h
 have hno: ∀{a:Int} {i o:Nat} {f p:Int},a9 (tk i) p=some (a,f)->MP gr fr tk a i o f->o≠v:=by
  rintro a i o f p ht ⟨k,x,h1,h2,h3,h4,h5,h6⟩ e
  subst e
  obtain⟨n,d,e1,e2,e3,e4⟩:=H.own h5 h6
  have h0:=hr e2 e3 e4
  have hd:=H.dom (H.uJ ht).1
  have:=l5 (q:=fun t=>t.2.2==(n:Int)) (by omega:i<17) (H.Cd ht) (by simp[e1])
  have h1:=H.refs e2
  unfold c_ at h1;omega
 have EY: ∀{a:Int} {i o:Nat} {f p:Int},a9 (tk i) p=some (a,f)->MP gr fr tk a i o f->MP (cn gr (v:Int)) (fun i p=>if i=v then none else fr i p) tk a i o f:=by
  intro a i o f p ht hg
  have Mv:=hno ht hg
  have hiv:=Wj ht
  obtain⟨k,x,h1,h2,h3,h4,h5,h6⟩:=hg
  have hh:kM (v:Int) x=false:=by
   unfold kM
   rw[h3,h4]
   have e1:((o:Int)==(v:Int))=false:=by simpa using fun e=>Mv (Int.ofNat.inj e)
   have e2:((i:Int)==(v:Int))=false:=by simpa using fun e=>hiv (Int.ofNat.inj e)
   rw[e1,e2];simp
  have hd:(cn gr (v:Int))[k]? =some x:=by
   unfold cn
   rw[List.getElem?_map,h2]
   show some (if kM (v:Int) x=true then zG else x)=some x
   rw[hh];rfl
  obtain⟨k1,k2,k3⟩:=dZ.1 h1
  refine⟨k,x,dZ.2 ⟨k1,by unfold cn;rw[List.length_map];exact k2,?_⟩,hd,h3,h4,?_,h6⟩
  ·rw[getD_some hd];rw[getD_some h2] at k3;exact k3
  ·show(if o=v then none else fr o x.2.1)=some f
   rw[if_neg Mv];exact h5
 have ZP: ∀{n:Nat} {d:DT},ds'[n]? =some d->(d.1=0\/d.1=3\/d.1=5)->d.2.2=(0,0,())->c_ tk (n:Int)=0:=fun{n d} h h2 h3=>by
  rcases Nat.eq_zero_or_pos (c_ tk (n:Int)) with e|e
  ·exact e
  ·obtain⟨d',k1,k2⟩:=H.DX e
   by_cases e5:d'.2.1=(v:Int)
   ·have:=H.refs k1
    have:=hr k1 k2 e5
    omega
   ·have:=hk k1 k2 e5
    rw[h] at this;cases this
    omega
 refine⟨fun{i p f} h=>?_,fun{m d} h=>?_,fun{m d} h h4=>?_,fun{i p f} h ht=>?_,fun{i p c f} h=>?_,H.nd,fun{i p p' f} h h' ht ht'=>?_,fun{m d} h=>?_,fun{m y} h=>?_,by unfold cn;rw[List.length_map];exact H.gl,hok⟩
 ·by_cases e:i=v
  ·rw[if_pos e] at h;cases h
  ·rw[if_neg e] at h;exact H.dom h
 ·rcases hn h with ⟨h1, _⟩|⟨h1,h2,h3⟩
  ·exact H.kd h1
  ·exact⟨by omega,by rw[h2],h3⟩
 ·rcases hn h with ⟨h1,h2⟩|⟨h1, _⟩
  ·obtain⟨i,p,k1,k2,k3⟩:=H.Ib h1 h4
   exact⟨i,p,k1,by rw[if_neg (fun e=>h2 ⟨h4,by rw[<-k1,e]⟩)];exact k2,k3⟩
  ·omega
 ·by_cases e:i=v
  ·rw[if_pos e] at h;cases h
  ·rw[if_neg e] at h
   obtain⟨m,d,h1,h2,h3,h4⟩:=H.own h ht
   exact⟨m,d,h1,hk h2 h3 (fun c=>e (Int.ofNat.inj (h4.symm.trans c))),h3,h4⟩
 ·obtain⟨h1,o,h2,h3⟩:=H.uJ h
  exact⟨by rw[if_neg (Wj h)];exact h1,o,h2,EY h h3⟩
 ·by_cases e:i=v
  ·rw[if_pos e] at h;cases h
  ·rw[if_neg e] at h h'
   exact H.inj h h' ht ht'
 ·rcases hn h with ⟨h1, _⟩|⟨h1,h2, _⟩
  ·exact H.refs h1
  ·rw[ZP h h1 h2,h2];rfl
 ·unfold cn at h
  rw[List.getElem?_map] at h
  obtain⟨x,hx,hy⟩:=Option.map_eq_some_iff.1 h
  by_cases e:kM (v:Int) x=true
  ·rw[if_pos e] at hy
   subst hy
   have:kW tk (m:Int)=0:=by
    refine sH fun i t ht=>?_
    cases hq:t.2.1==(m:Int) with
    |false=>rfl
    |true=>
     have hq:t.2.1=(m:Int):=by simpa using hq
     have Wk:=H.Cc ht
     obtain⟨_,o, _,hg⟩:=H.uJ (a:=t.2.1) (f:=t.2.2) Wk
     have Mv:=hno (a:=t.2.1) (f:=t.2.2) Wk hg
     have hiv:=Wj (b:=t.2.1) (f:=t.2.2) Wk
     obtain⟨k,x',h1,h2,h3,h4, _⟩:=hg
     obtain⟨k1, _⟩:=dZ.1 h1
     have ek:k=m:=Int.ofNat.inj (k1.trans hq)
     subst ek
     rw[hx] at h2;cases h2
     unfold kM at e
     rw[h3,h4] at e
     have e1:((o:Int)==(v:Int))=false:=by simpa using fun e=>Mv (Int.ofNat.inj e)
     have e2:((i:Int)==(v:Int))=false:=by simpa using fun e=>hiv (Int.ofNat.inj e)
     rw[e1,e2] at e
     simp at e
   rw[this];rfl
  ·rw[if_neg e] at hy
   subst hy
   exact H.rV hx
end HC
end Go.Proofs.YtdnoecpjcoibmaaGreat
namespace Go.Proofs.YtdnoecpjcoibmaaGreat
set_option maxRecDepth 100000
open Go.RX D
def kI (h:HS):DH:=fun i p=>match h.g i with
 |some x=>if(aV h.s x.root false p).2.2.1=0 then some (aV h.s x.root false p).1 else none
 |none=>none
def fW (h:HS) (i:Nat):List TK:=match h.g i with
 |some x=>x.tk
 |none=>[]
def dm (h:HS) (i:Nat) (p:Int):Int×Int×Int×Unit:=match h.g i with
 |some x=>aV h.s x.root false p
 |none=>(0,0,4,())
theorem bH {h:HS} {i:Nat} {x:GV} (hx:h.g i=some x) (p:Int):dm h i p=aV h.s x.root false p:=by unfold dm;rw[hx]
theorem eC {h:HS} {i:Nat} (hx:h.g i=none) (p:Int):dm h i p=(0,0,4,()):=by unfold dm;rw[hx]
theorem nk (h:HS) (i:Nat) (p:Int):kI h i p=if(dm h i p).2.2.1=0 then some (dm h i p).1 else none:=by
 unfold kI dm
 cases h.g i with
 |none=>rfl
 |some x=>rfl
structure Ag (h h':HS) (P:Nat->Int->Prop):Prop where
 to: ∀{i:Nat} {q:Int},¬ P i q->dm h' i q=dm h i q
theorem Ag.refl (h:HS) (P:Nat->Int->Prop):Ag h h P:=⟨fun _=>rfl⟩
theorem Ag.trans {h1 h2 h3:HS} {P:Nat->Int->Prop} (a:Ag h1 h2 P) (b:Ag h2 h3 P):Ag h1 h3 P:=⟨fun hn=>(b.to hn).trans (a.to hn)⟩
structure KD (s s':WD):Prop where
 k4: ∀{n:Nat} {d:DT},s.2[n]? =some d->d.1=4-> ∃d',s'.2[n]? =some d'/\(d'.1=4\/d'.1=5)
 k5: ∀{n:Nat} {d:DT},s.2[n]? =some d->d.1=5-> ∃d',s'.2[n]? =some d'/\d'.1=5
theorem KD.refl {s s':WD} (h:s'.2=s.2):KD s s':=⟨fun{n d} h1 h4=>⟨d,by rw[h];exact h1,.inl h4⟩,fun{n d} h1 h5=>⟨d,by rw[h];exact h1,h5⟩⟩
theorem KD.trans {s t u:WD} (a:KD s t) (b:KD t u):KD s u:=by
 refine⟨fun h1 h4=>?_,fun h1 h5=>?_⟩
 ·obtain⟨d',e1,e2⟩:=a.k4 h1 h4
  rcases e2 with e2|e2
  ·exact b.k4 e1 e2
  ·obtain⟨d2,f1,f2⟩:=b.k5 e1 e2
   exact⟨d2,f1,.inr f2⟩
 ·obtain⟨d',e1,e2⟩:=a.k5 h1 h5
  exact b.k5 e1 e2
theorem KD.set {s:WD} {W:List Int} {n:Nat} {d0 d1:DT} (h0:s.2[n]? =some d0) (h4:d0.1=4->d1.1=4\/d1.1=5) (h5:d0.1=5->d1.1=5):KD s (W,s.2.set n d1):=by
 have hn:n<s.2.length:=(List.getElem?_eq_some_iff.1 h0).1
 have key: ∀{m:Nat} {d:DT},s.2[m]? =some d->(m=n/\d=d0/\(s.2.set n d1)[m]? =some d1)\/(s.2.set n d1)[m]? =some d:=fun{m d} h=>by
  by_cases e:n=m
  ·subst e
   rw[h0] at h;cases h
   exact .inl ⟨rfl,rfl,List.getElem?_set_self hn⟩
  ·rw[List.getElem?_set_ne e];exact .inr h
 refine⟨fun h k=>?_,fun h k=>?_⟩
 ·rcases key h with ⟨_,rfl,e⟩|e
  ·exact⟨_,e,h4 k⟩
  ·exact⟨_,e,.inl k⟩
 ·rcases key h with ⟨_,rfl,e⟩|e
  ·exact⟨_,e,h5 k⟩
  ·exact⟨_,e,k⟩
theorem qo.kd {P:Int->Int->Prop} {o:Int} {g g':Gh} {s s':WD} (C:qo P o g g' s s'):KD s s':=by
 refine⟨fun{n d} h1 h4=>⟨d,C.kp.ks h1 h4,.inl h4⟩,fun{n d} h1 h5=>?_⟩
 obtain⟨d',e1,e2⟩:=C.kk h1 (.inr h5)
 refine⟨d',e1,e2.elim id fun e=>?_⟩
 rw[h5] at e;exact absurd e.2 (by decide)
def sU (gh fX:Gh) (s s':WD):Prop:=(∀(f:Int) (v:Int×Nat×Int),gh f=some v->fX f=some v\/jB s' f)/\ ∀f,jB s f->jB s' f
theorem sU.refl (gh:Gh) (s:WD):sU gh gh s s:=⟨fun _ _ h=> .inl h,fun _ h=>h⟩
theorem sU.trans {a b c:Gh} {s t u:WD} (h:sU a b s t) (k:sU b c t u):sU a c s u:=⟨fun f v hf=>(h.1 f v hf).elim (k.1 f v) fun c=> .inr (k.2 f c),fun f c=>k.2 f (h.2 f c)⟩
theorem qo.Tg {P:Int->Int->Prop} {o:Int} {g g':Gh} {s s':WD} (C:qo P o g g' s s'):sU g g' s s':=⟨fun _ _ h=>C.gk h,fun _ c=>c.kept C.kp⟩
theorem jB.kd {s s':WD} {f:Int} (h:jB s f) (K:KD s s') (hw: ∀k:Int,0<=k->k<16->cZ s'.1 (16*f+k)=cZ s.1 (16*f+k)):jB s' f:=by
 obtain⟨h0,d,h1,h2,h3⟩:=h
 obtain⟨d',e1,e2⟩:=K.k5 h1 h2
 exact⟨h0,d',e1,e2,fun k k0 k1=>by rw[hw k k0 k1];exact h3 k k0 k1⟩
theorem sU.kd {g:Gh} {s s':WD} (K:KD s s') (hw: ∀{n:Nat} {d:DT},s.2[n]? =some d->d.1=5-> ∀k:Int,0<=k->k<16->cZ s'.1 (16*(n:Int)+k)=cZ s.1 (16*(n:Int)+k)):sU g g s s':=⟨fun _ _ h=> .inl h,fun f c=>by
 refine c.kd K fun k k0 k1=>?_
 obtain⟨h0,d,h1,h2, _⟩:=c
 have:=hw h1 h2 k k0 k1
 rw[show((f.toNat:Nat):Int)=f by omega] at this
 exact this⟩
structure tY (h h':HS) (P:Nat->Int->Prop) (f:Int):Prop where
 pg:Ag h h' P
 ws: ∀{m:Nat} {d d':DT},h.s.2[m]? =some d->d.1=4->h'.s.2[m]? =some d'->d'.1=4->(m:Int)≠f-> ∀k:Int,0<=k->k<16->cZ h'.s.1 (16*(m:Int)+k)=cZ h.s.1 (16*(m:Int)+k)
 kd:KD h.s h'.s
theorem tY.refl (h:HS) (P:Nat->Int->Prop) (f:Int):tY h h P f:=⟨Ag.refl h P,fun _ _ _ _ _ _ _ _=>rfl,.refl rfl⟩
theorem tY.mono {h h':HS} {P P':Nat->Int->Prop} {f:Int} (a:tY h h' P f) (hp: ∀{i:Nat} {q:Int},P i q->P' i q):tY h h' P' f:=⟨⟨fun hn=>a.pg.to fun c=>hn (hp c)⟩,a.ws,a.kd⟩
theorem tY.trans {h1 h2 h3:HS} {P:Nat->Int->Prop} {f:Int} (a:tY h1 h2 P f) (b:tY h2 h3 P f):tY h1 h3 P f:=by
 refine⟨Ag.trans a.pg b.pg,fun{m d d'} e1 e2 e3 e4 hf k k0 k1=>?_,a.kd.trans b.kd⟩
 obtain⟨d2,x1,x2⟩:=a.kd.k4 e1 e2
 rcases x2 with x2|x2
 ·rw[b.ws x1 x2 e3 e4 hf k k0 k1,a.ws e1 e2 x1 x2 hf k k0 k1]
 ·obtain⟨d3,y1,y2⟩:=b.kd.k5 x1 x2
  rw[e3] at y1;cases y1
  rw[y2] at e4;exact absurd e4 (by decide)
structure HI (gh:Gh) (h:HS):Prop where
 inv:Inv gh h.s
 rt:Rt gh
 nl:xe gh h.s
 sz:h.s.1.length=16*h.s.2.length
 dom: ∀{i:Nat} {x:GV},h.g i=some x->1<=i/\i<=16
 root: ∀{i:Nat} {x:GV},h.g i=some x->gh x.root=some ((i:Int),3,0)
 own: ∀{f o y:Int},gh f=some (o,3,y)-> ∃(i:Nat) (x:GV),(i:Int)=o/\h.g i=some x
 hc:HC (kI h) (fW h) h.s.2 h.gr
theorem cw {h:HS} {i:Nat} {x:GV} (hx:h.g i=some x) (p:Int):kI h i p=if(aV h.s x.root false p).2.2.1=0 then some (aV h.s x.root false p).1 else none:=by
 unfold kI;rw[hx]
theorem eH {h:HS} {i:Nat} (hx:h.g i=none) (p:Int):kI h i p=none:=by
 unfold kI;rw[hx]
theorem bX {h:HS} {i:Nat} {x:GV} (hx:h.g i=some x):fW h i=x.tk:=by unfold fW;rw[hx]
theorem PF (h:HS) (v:Int):rS h v=fW h v.toNat:=rfl
theorem Inv.EH {g:Gh} {s:WD} (I:Inv g s): ∀(n:Nat) {l:Nat} {f o x:Int},l+n=3->g f=some (o,l,x)-> ∃r y,g r=some (o,3,y)
 |0,l,f,o,x,hl,h=>by
  have:l=3:=by omega
  subst this
  exact⟨f,x,h⟩
 |n+1,l,f,o,x,hl,h=>by
  obtain⟨f',h1, _⟩:=I.Ad h (by omega)
  exact I.EH n (by omega) h1
section
variable {gh fX:Gh} {h:HS}
namespace HI
theorem owner (H:HI gh h) {f o y:Int} {l:Nat} (hf:gh f=some (o,l,y)): ∃(i:Nat) (x:GV),(i:Int)=o/\h.g i=some x:=by
 have hk:=H.inv.kd hf
 obtain⟨r,y',hr⟩:=H.inv.EH (3 - l) (by omega) hf
 exact H.own hr
theorem ZQ (H:HI gh h) {Q:Sys} (hF:Fe Q h.s):QW Q h where
 BO:=hF
 sz:=by rw[H.sz];exact Nat.le_refl _
 rr:=fun v hl=>by
  obtain⟨x,hx,hr, _⟩:=bG hl
  rw[hr]
  have:=H.inv.um (H.root hx)
  exact⟨this.1,this.2.1⟩
 pg:=fun v t ht=>by
  rw[PF] at ht
  have:=H.hc.dom (H.hc.uJ (a:=t.2.1) (f:=t.2.2) (H.hc.Cc ht)).1
  omega
 new:=fun v a b c x hx hl h0=>by
  obtain⟨x',hx',hr,hv, _⟩:=bG hl
  rw[hx] at hx';cases hx'
  rw[hr] at h0
  have u6:=H.root hx
  rw[hv] at u6
  have h4:=(H.inv.map u6 h0).2
  obtain⟨_, _, _, _,h4, _⟩:=h4
  have:kI h v.toNat b=none:=by rw[cw hx,if_neg (by rw[h4];decide)]
  have:=H.hc.QX this
  rw[bX hx] at this
  exact this
theorem vf (H:HI gh h) {v:Nat} {x:GV} (hx:h.g v=some x) {p:Int} {s1 s':WD} (h1: ∀{i:Nat} {x:GV},h.g i=some x-> ∀q,aV s1 x.root false q=aV h.s x.root false q) (I1:Inv gh s1) (C:qo (mz (v:Int) 0 p) (v:Int) gh fX s1 s') {y:Option Int}
 (hy:(if(aV s' x.root false p).2.2.1=0 then some (aV s' x.root false p).1 else none)=y) {h':HS} (hs:h'.s=s') (hg: ∀i,(h'.g i).map GV.root=(h.g i).map GV.root):kI h'=lN (kI h) v p y:=by
 funext i q
 have hi:=hg i
 cases hx':h.g i with
 |none=>
  rw[hx'] at hi
  have hn:h'.g i=none:=by simpa using hi
  rw[eH hn]
  have hiv: ¬ (i=v/\q=p):=fun c=>by rw[c.1,hx] at hx';cases hx'
  rw[aZ hiv,eH hx']
 |some z=>
  rw[hx'] at hi
  obtain⟨z',Wl,Wn⟩: ∃z',h'.g i=some z'/\z'.root=z.root:=by
   cases hc:h'.g i with
   |none=>rw[hc] at hi;cases hi
   |some z'=>rw[hc] at hi;exact⟨z',rfl,by simpa using hi⟩
  rw[cw Wl,hs,Wn]
  by_cases e:i=v/\q=p
  ·obtain⟨rfl,rfl⟩:=e
   rw[hx] at hx';cases hx'
   rw[fq,hy]
  ·rw[aZ e,cw hx']
   have hk:aV s' z.root false q=aV h.s z.root false q:=by
    rw[<-h1 hx' q]
    refine I1.vA C.inv C.Ap C.root (o:=(i:Int)) (H.root hx') fun c=>e ?_
    obtain⟨c1,c2⟩:=c
    exact⟨Int.ofNat.inj c1,c2⟩
   rw[hk]
theorem Ct (H:HI gh h) {v:Nat} {p:Int} {s1 s':WD} (h1: ∀{i:Nat} {x:GV},h.g i=some x-> ∀q,aV s1 x.root false q=aV h.s x.root false q) (I1:Inv gh s1) (C:qo (mz (v:Int) 0 p) (v:Int) gh fX s1 s') {h':HS} (hs:h'.s=s') (hg: ∀i,(h'.g i).map GV.root=(h.g i).map GV.root):Ag h h' (fun i q=>i=v/\q=p):=by
 refine⟨fun{i q} hn=>?_⟩
 have hi:=hg i
 cases hx':h.g i with
 |none=>
  rw[hx'] at hi
  have hn:h'.g i=none:=by simpa using hi
  unfold dm;rw[hn,hx']
 |some z=>
  rw[hx'] at hi
  obtain⟨z',Wl,Wn⟩: ∃z',h'.g i=some z'/\z'.root=z.root:=by
   cases hc:h'.g i with
   |none=>rw[hc] at hi;cases hi
   |some z'=>rw[hc] at hi;exact⟨z',rfl,by simpa using hi⟩
  rw[bH Wl,bH hx',hs,Wn, <-h1 hx' q]
  refine I1.vA C.inv C.Ap C.root (o:=(i:Int)) (H.root hx') fun c=>hn ?_
  obtain⟨c1,c2⟩:=c
  exact⟨Int.ofNat.inj c1,c2⟩
theorem base (H:HI gh h) {v:Nat} {p:Int} {s1 s':WD} (C:qo (mz (v:Int) 0 p) (v:Int) gh fX s1 s') (hl:s1.1.length=h.s.1.length/\s1.2.length=h.s.2.length) (nl:xe gh s1) {h':HS} (hs:h'.s=s') (hg: ∀i,(h'.g i).map GV.root=(h.g i).map GV.root)
 (hc:HC (kI h') (fW h') s'.2 h'.gr):HI fX h' where
 inv:=by rw[hs];exact C.inv
 rt:=H.rt.keep C.root
 nl:=by
  rw[hs]
  exact C.lg (fun o q q' a b=>a.2.trans b.2.symm) nl
 sz:=by
  rw[hs,C.len.1,C.len.2,hl.1,hl.2];exact H.sz
 dom:=fun{i x} hx=>by
  have hi:=hg i
  rw[hx] at hi
  cases hc:h.g i with
  |none=>rw[hc] at hi;cases hi
  |some z=>exact H.dom hc
 root:=fun{i x} hx=>by
  have hi:=hg i
  rw[hx] at hi
  cases hc:h.g i with
  |none=>rw[hc] at hi;cases hi
  |some z=>
   rw[hc] at hi
   have hr:x.root=z.root:=by simpa using hi
   rw[hr]
   exact C.root.to (H.root hc)
 own:=fun{f o y} hf=>by
  obtain⟨i,x,h1,h2⟩:=H.own ((C.root o f y).1 hf)
  have hi:=hg i
  rw[h2] at hi
  cases hc:h'.g i with
  |none=>rw[hc] at hi;cases hi
  |some z=>exact⟨i,z,h1,hc⟩
 hc:=by rw[hs];exact hc
theorem EI (H:HI gh h) {s':WD} (B:Inv.fe gh h.s s') {h':HS} (hs:h'.s=s') (hg:h'.g=h.g) (P:Nat->Int->Prop):Ag h h' P:=by
 refine⟨fun{i q} _=>?_⟩
 cases hi:h.g i with
 |none=>rw[eC hi,eC (by rw[hg];exact hi)]
 |some z=>rw[bH hi,bH (by rw[hg];exact hi),hs];exact H.inv.cX B (H.root hi) q
theorem side (H:HI gh h) {s':WD} (B:Inv.fe gh h.s s') {wG:List GT} {Ia:List Po.PT} (hc:HC (kI h) (fW h) s'.2 wG):HI gh {s:=s',g:=h.g,gr:=wG,po:=Ia} where
 inv:=H.inv.beside B
 rt:=H.rt
 nl:=Inv.lC B H.nl
 sz:=by
  show s'.1.length=16*s'.2.length
  rw[B.len.1,B.len.2];exact H.sz
 dom:=H.dom
 root:=H.root
 own:=H.own
 hc:=by
  have e:kI {s:=s',g:=h.g,gr:=wG,po:=Ia}=kI h:=by
   funext i p
   cases hx:h.g i with
   |none=>
    rw[eH hx]
    exact eH (h:={s:=s',g:=h.g,gr:=wG,po:=Ia}) hx p
   |some x=>
    rw[cw hx,cw (h:={s:=s',g:=h.g,gr:=wG,po:=Ia}) hx]
    show(if(aV s' x.root false p).2.2.1=0 then _ else _)= _
    rw[H.inv.cX B (H.root hx)]
  rw[e]
  exact hc
end HI
end
end Go.Proofs.YtdnoecpjcoibmaaGreat
namespace Go.Proofs.YtdnoecpjcoibmaaGreat
set_option maxRecDepth 100000
open Go.RX D
theorem Vj {o r:Int} (ho:1<=o/\o<=16) (hr:0<=r/\r<=65535):bR 4 o r 0=true:=by unfold bR fA;simp;omega
theorem Yc {o:Int} (ho:0<=o/\o<=16):bR 5 o 0 0=true:=by unfold bR fA;simp;omega
theorem Ds {o:Int} (ho:1<=o/\o<=16):aE 4 o zD=((4,o,0,0,()),0):=by
 have r0:bR 0 0 0 0=true:=by decide
 have e:dV 0 0 0 0 4 o=0:=by
  unfold dV
  rw[r0,if_neg (by decide),if_neg (by decide),if_pos (by decide),if_neg (show ¬ (4:Int)=5 by decide),Vj ho ⟨by decide,by decide⟩,if_neg (by decide)]
 unfold aE zD ig gj
 dsimp only
 rw[e]
 rfl
theorem Ht {o:Int} (ho:1<=o/\o<=16):aE 0 0 (4,o,0,0,())=(zD,0):=by
 have e:dV 4 o 0 0 0 0=0:=by
  unfold dV
  rw[Vj ho ⟨by decide,by decide⟩,if_neg (by decide),if_neg (by decide),if_pos (by decide),if_neg (show ¬ (0:Int)=5 by decide)]
  decide
 unfold aE ig gj
 dsimp only
 rw[e]
 rfl
theorem yx {o v:Int} (ho:1<=o/\o<=16):aE 5 v (4,o,0,0,())=((5,o,0,0,()),0):=by
 have e:dV 4 o 0 0 5 v=0:=by
  unfold dV
  rw[Vj ho ⟨by decide,by decide⟩,if_neg (by decide),if_neg (by decide),if_pos (by decide),if_pos rfl,Yc ⟨by omega,ho.2⟩,if_neg (by decide)]
 unfold aE ig gj
 dsimp only
 rw[e]
 rfl
theorem Dt {o:Int} (ho:0<=o/\o<=16):aE 0 0 (5,o,0,0,())=(zD,0):=by
 have e:dV 5 o 0 0 0 0=0:=by
  unfold dV
  rw[Yc ho,if_neg (by decide),if_neg (by decide),if_pos (by decide),if_neg (show ¬ (0:Int)=5 by decide)]
  decide
 unfold aE ig gj
 dsimp only
 rw[e]
 rfl
theorem TN {o r x:Int} (ho:1<=o/\o<=16) (hr:0<=r/\r<=65535) (hx:0<=r+x/\r+x<=65535):gN x (4,o,r,0,())=((4,o,r+x,0,()),0):=by
 have e:lJ 4 o r 0 x=0:=by
  unfold lJ
  rw[Vj ho hr,if_neg (by decide),if_pos (.inr (.inr rfl)),if_neg (by omega)]
 unfold gN jf
 dsimp only
 rw[e]
 rfl
theorem u7 {ds:List DT} {n:Nat} {d d':DT} {G:DT->DT×Int} (h:ds[n]? =some d) (hG:G d=(d',0)):fQ ds (n:Int) G=ds.set n d'/\sP ds (n:Int) G=0:=by
 have hn:n<ds.length:=(List.getElem?_eq_some_iff.1 h).1
 have hg:ds.getD n zD=d:=by rw[List.getD_eq_getElem?_getD,h];rfl
 constructor
 ·rw[pS (by omega)]
  show(if(G (ds.getD n zD)).2=0 then ds.set n (G (ds.getD n zD)).1 else ds)= _
  rw[hg,hG,if_pos rfl]
 ·rw[ve (by omega)]
  show(G (ds.getD n zD)).2=0
  rw[hg,hG]
theorem qb {ds:List DT} {o:Int} (h:0<aX ds 0) (hz: ∀d∈ds,d.1=0->d=zD) (ho:1<=o/\o<=16): ∃i:Nat,i<ds.length/\ds[i]? =some zD/\eO ds 4 o=(i:Int)/\dj ds 4 o=0/\c8 ds 4 o=ds.set i (4,o,0,0,()):=by
 obtain⟨i,d,h1,h2,h3,h4⟩:=A4 h
 have hd:d=zD:=hz d (List.mem_of_getElem? h3) h4
 subst hd
 obtain⟨e2,e1⟩:=u7 h3 (Ds ho)
 refine⟨i,h2,h3,?_,?_,?_⟩
 ·unfold eO;rw[h1];dsimp only;rw[if_pos e1]
 ·unfold dj;rw[if_neg (by omega),h1];exact e1
 ·unfold c8;rw[h1];exact e2
theorem sI {ds:List DT} {y o:Int} (h:dj ds y o=0):0<aX ds 0:=by
 rcases Nat.eq_zero_or_pos (aX ds 0) with e|e
 ·unfold dj at h
  rw[PD e] at h
  dsimp only at h
  split at h<;>exact absurd h (by decide)
 ·exact e
theorem Ml {ds:List DT} {n:Nat} {d d':DT} (h:ds[n]? =some d):(ds.set n d').set n d=ds:=by
 apply List.ext_getElem?
 intro i
 have hn:n<ds.length:=(List.getElem?_eq_some_iff.1 h).1
 by_cases e:n=i
 ·subst e
  rw[List.getElem?_set_self (by rw[List.length_set];exact hn),h]
 ·rw[List.getElem?_set_ne e,List.getElem?_set_ne e]
theorem kF {ds:List DT} {n:Nat} {d:DT} (h:ds[n]? =some d):oJ ds (n:Int)=d:=by
 have hn:n<ds.length:=(List.getElem?_eq_some_iff.1 h).1
 unfold oJ
 rw[if_neg (by omega)]
 show ds.getD n zD=d
 rw[List.getD_eq_getElem?_getD,h];rfl
theorem Kept.hc {fr:DH} {tk:Nat->List TK} {s s':WD} {gr:List GT} (H:HC fr tk s.2 gr) (K:Kept s s'):HC fr tk s'.2 gr:=
 H.Cr K.ks fun{n d} h=>(K.nw h).elim .inl fun e=> .inr ⟨by omega,e.2.1,by omega,e.2.2.2⟩
end Go.Proofs.YtdnoecpjcoibmaaGreat
namespace Go.Proofs.YtdnoecpjcoibmaaGreat
set_option maxRecDepth 100000
open Go.RX D
theorem JO {ws:List Int} {a:Int} (h:(aC ws a).1=true):nQ (B (cZ ws a)).toNat=true:=by
 unfold aC ee wY at h
 cases hk:nQ (B (cZ ws a)).toNat with
 |true=>rfl
 |false=>rw[hk] at h;simp at h
theorem EJ {ws:List Int} {p t f:Int} {l:Nat} {fd:FT} (hi:uj ws (dX f p (l:Int))=true) (hok:nQ (B (cZ ws (dX f p (l:Int)))).toNat=true):
 iZ ws p t (f,(l:Int),fd)=tookS f p t (l:Int) fd (aC ws (dX f p (l:Int))).1 (aC ws (dX f p (l:Int))).2.1 (aC ws (dX f p (l:Int))).2.2.1 (aC ws (dX f p (l:Int))).2.2.2.1:=by
 unfold iZ
 dsimp only
 rw[if_neg (by omega),hok,if_neg ?_]
 ·rfl
 ·unfold yM
  rw[if_pos hi]
  decide
namespace Inv
variable {g:Gh} {s:WD}
theorem EK (I:Inv g s) {o r p t:Int} (hr:g r=some (o,3,0)) (hp:0<=p/\p<65536): ∀(n:Nat) {j:Nat} {f:Int},j+n=3->g f=some (o,j,px (j+1) p)->mj s.1 r p t n=(f,(j:Int),(0,0,0,0,()))
 |0,j,f,hj,hf=>by
  have:j=3:=by omega
  subst this
  rw[S_ hp] at hf
  rw[I.inj hf hr];rfl
 |n+1,j,f,hj,hf=>by
  obtain⟨f',h1,h2⟩:=I.Ad hf (by omega)
  have xd:g f'=some (o,j+1,px (j+1+1) p):=h1
  obtain⟨b1,b2,b3⟩:=I.um h1
  obtain⟨c1,c2, _⟩:=I.um hf
  have ih:=I.EK (t:=t) hr hp n (j:=j+1) (by omega) xd
  have ea:=oM ⟨b1,b2⟩ hp (l:=j+1) (by omega)
  have hi2:=eo p (j+1)
  rw[mj,ih,EJ (by rw[ea];exact jk (by omega) (by omega)) (by rw[ea];exact JO (by rw[h2];rfl)),ea,h2]
  unfold tookS bN
  dsimp only
  rw[if_neg (by decide),if_pos ?_]
  ·congr 2
   rw[bS (by omega) (by omega)];omega
  ·have:fy true 0 false f=true:=dA ⟨c1,c2⟩
   rw[this]
   simp
   try omega
end Inv
end Go.Proofs.YtdnoecpjcoibmaaGreat
namespace Go.Proofs.YtdnoecpjcoibmaaGreat
set_option maxRecDepth 100000
open Go.RX D
theorem Inv.R8 {g:Gh} {s:WD} (I:Inv g s) (nl:xe g s) {o r p t:Int} (hr:g r=some (o,3,0)) (hp:0<=p/\p<65536) (ht:0<=t/\t<=7):
 if(aV s r false p).2.2.1=0 then uO s.1 r p t=((aV s r false p).1,(aV s r false p).2.1,0,(if dK true (aV s r false p).2.1 false (aV s r false p).1 t=true then 0 else 7),()) else(uO s.1 r p t).2.2.2.1=4:=by
 obtain⟨f,j, _,he⟩:=I.jH hr hp
 rw[I.fB hr hp he]
 have hk:=I.kd he.1
 have hj:=hk.2.2.2.2.2
 obtain⟨b1,b2,b3⟩:=I.um he.1
 obtain⟨r1,r2,r3⟩:=I.um hr
 have hi:=eo p j
 have ea:=oM ⟨b1,b2⟩ hp hj
 have htb:=he.2
 have hw:=I.wf he.1 hi.1 hi.2
 have hlf:=nl he.1 hi.1 hi.2
 have Xj:=I.leaf he.1 hi.1 hi.2
 have Ff:=l_ s.1 (16*f+px j p % 16)
 have t_:IB r p t=false:=by
  unfold IB
  have e3:dX r p 3=16*r+px 3 p % 16:=oM ⟨r1,r2⟩ hp (l:=3) (by omega)
  have Tb:=eo p 3
  rw[e3,decide_eq_false (by omega),decide_eq_false (by omega),decide_eq_false (by omega)];rfl
 have hS:uO s.1 r p t=(mj s.1 r p t 4).2.2:=if_neg (by rw[t_];decide)
 have hto:=I.EK (t:=t) hr hp (3 - j) (by omega) he.1
 have hin:uj s.1 (dX f p (j:Int))=true:=by rw[ea];exact jk (by omega) (by omega)
 have hok:nQ (B (cZ s.1 (dX f p (j:Int)))).toNat=true:=by
  rw[ea]
  cases hb:(aC s.1 (16*f+px j p % 16)).1 with
  |true=>exact JO hb
  |false=>rw[hw hb];decide+kernel
 have hstep:mj s.1 r p t (3 - j+1)=tookS f p t (j:Int) (0,0,0,0,()) (aC s.1 (16*f+px j p % 16)).1 (aC s.1 (16*f+px j p % 16)).2.1 (aC s.1 (16*f+px j p % 16)).2.2.1 (aC s.1 (16*f+px j p % 16)).2.2.2.1:=by
  rw[mj,hto,EJ hin hok,ea]
 generalize aC s.1 (16*f+px j p % 16)=e at*
 obtain⟨ep,er,el,ef,eu⟩:=e
 dsimp only at*
 have PG: ∀x:FT,tookS f p t (j:Int) (0,0,0,0,()) ep er el ef=(f,-1,x)->uO s.1 r p t=x:=fun x hx=>by
  rw[hS]
  have h1:(mj s.1 r p t (3 - j+1)).2.1= -1:=by rw[hstep,hx]
  have:=zk h1 j
  rw[show 3 - j+1+j=4 by omega] at this
  rw[this,hstep,hx]
 cases ep with
 |false=>
  rw[PG (wO (j:Int) 4) (by unfold tookS;rfl)]
  unfold lM wO
  simp
 |true=>
  have ht':fy true er el ef=false:=htb
  obtain⟨k1,k2,k3,k4,k5⟩:=j7.1 Ff
  have hj0:=hlf rfl htb
  subst hj0
  have hl:el=false:=by
   rcases Xj rfl htb with ⟨_,hl⟩|⟨h, _⟩
   ·exact hl
   ·exact absurd h (by decide)
  subst hl
  have Qr:er>0:=by
   refine Classical.byContradiction fun hc=>?_
   have:er=0:=by omega
   subst this
   have:=dA ⟨k3,k4⟩
   unfold dy bN at this
   dsimp only at this
   rw[this] at ht'
   cases ht'
  rw[PG (DF 0 t ef true er false ef) (by
   unfold tookS
   rw[if_neg (by decide),ht',if_neg (by decide),if_neg (by decide),if_pos (by simp;omega)];rfl)]
  unfold lM DF
  rw[if_pos rfl,if_neg (show ¬ ((0:Nat)=1) by decide)]
  dsimp only
  rw[if_pos rfl,if_neg (by omega)]
  split<;>rfl
theorem Hu {fr:DH} {v:Nat} {p:Int} {y:Option Int} (h:fr v p=y):lN fr v p y=fr:=by
 funext i q
 unfold lN
 split
 ·rename_i c;rw[c.1,c.2,h]
 ·rfl
section
variable {gh:Gh} {h:HS}
namespace HI
theorem po (H:HI gh h) (Ia:List Po.PT):HI gh (xD h Ia):=
 ⟨H.inv,H.rt,H.nl,H.sz,H.dom,H.root,H.own,H.hc⟩
theorem Ye (H:HI gh h) {wG:List GT} (hc:HC (kI h) (fW h) h.s.2 wG):HI gh (kT h wG):=
 ⟨H.inv,H.rt,H.nl,H.sz,H.dom,H.root,H.own,hc⟩
theorem R9 (H:HI gh h) (v a:Int):HI gh (fh h v a):=by
 unfold fh
 split
 ·exact H
 ·refine H.Ye (H.hc.JM (vD _ _ _) (H.hc.gk.rev _ _) (fun{n x y} hx hy=>?_) fun{n x} hx hu=>?_)
  ·unfold jz at hy
   by_cases e:oL h.gr a v=0
   ·rw[if_pos e] at hy
    by_cases en:a.toNat=n
    ·subst en
     rw[List.getElem?_set_self (List.getElem?_eq_some_iff.1 hx).1] at hy
     cases hy
     unfold oL at e
     cases ha:jR h.gr a with
     |none=>rw[ha] at e;exact absurd (show(4:Int)=0 from e) (by decide)
     |some k=>
      rw[ha] at e
      dsimp only at e
      obtain⟨k1,k2,k3⟩:=dZ.1 ha
      have ek:a.toNat=k:=by omega
      rw[ek] at hx
      rw[getD_some hx] at e
      have:=(H.hc.gk x (List.mem_of_getElem? hx)).2
      split at e
      ·exact absurd e (by decide)
      ·split at e
       ·exact absurd e (by decide)
       ·show(0:Int)= _
        omega
    ·rw[List.getElem?_set_ne en,hx] at hy
     cases hy;rfl
   ·rw[if_neg e,hx] at hy
    cases hy;rfl
  ·unfold jz
   by_cases e:oL h.gr a v=0
   ·rw[if_pos e]
    by_cases en:a.toNat=n
    ·subst en
     unfold oL at e
     cases ha:jR h.gr a with
     |none=>rw[ha] at e;exact absurd (show(4:Int)=0 from e) (by decide)
     |some k=>
      rw[ha] at e
      dsimp only at e
      obtain⟨k1,k2,k3⟩:=dZ.1 ha
      have ek:a.toNat=k:=by omega
      rw[ek] at hx
      rw[getD_some hx] at e
      rw[if_pos hu] at e
      split at e
      ·exact absurd e (by decide)
      ·exact absurd e (by decide)
    ·rw[List.getElem?_set_ne en];exact hx
   ·rw[if_neg e];exact hx
theorem offer (H:HI gh h) (v a b c:Int):HI gh (fc h v a b c):=by
 unfold fc
 split
 ·have hfree: ∀{n:Nat} {x:GT},iQ h.gr v a b=0->(h_ h.gr v a b).toNat=n->h.gr[n]? =some x->x=zG:=fun{n x} e en hx=>by
   unfold h_ at en
   rw[if_pos e] at en
   have hne:cm h.gr dz h.gr.length≠[]:=fun hc=>by
    unfold iQ at e
    split at e
    ·exact absurd e (by decide)
    ·split at e
     ·exact absurd e (by decide)
     ·exact absurd e (by decide)
   obtain⟨y,l,hl⟩:=List.exists_cons_of_ne_nil hne
   have hm:y∈cm h.gr dz h.gr.length:=by rw[hl];exact List.mem_cons_self
   rw[hl] at en
   have en:y.toNat=n:=en
   unfold cm at hm
   obtain⟨i,hi,rfl⟩:=List.mem_map.1 hm
   have hi2:=(List.mem_filter.1 hi).2
   have ei:i=n:=en
   subst ei
   rw[getD_some hx] at hi2
   simpa[dz] using hi2
  have hlen:(gR h.gr v a b (c==1)).length=h.gr.length:=by
   unfold gR;split
   ·rw[List.length_set]
   ·rfl
  refine H.Ye (H.hc.JM hlen (H.hc.gk.off _ _ _ _) (fun{n x y} hx hy=>?_) fun{n x} hx hu=>?_)
  ·unfold gR at hy
   by_cases e:iQ h.gr v a b=0
   ·rw[if_pos e] at hy
    by_cases en:(h_ h.gr v a b).toNat=n
    ·have hz:=hfree e en hx
     subst en
     rw[List.getElem?_set_self (List.getElem?_eq_some_iff.1 hx).1] at hy
     cases hy
     rw[hz];rfl
    ·rw[List.getElem?_set_ne en,hx] at hy
     cases hy;rfl
   ·rw[if_neg e,hx] at hy
    cases hy;rfl
  ·unfold gR
   by_cases e:iQ h.gr v a b=0
   ·rw[if_pos e]
    by_cases en:(h_ h.gr v a b).toNat=n
    ·have hz:=hfree e en hx
     rw[hz] at hu
     exact absurd hu (by decide)
    ·rw[List.getElem?_set_ne en];exact hx
   ·rw[if_neg e];exact hx
 ·exact H
theorem EL (H:HI gh h) {v:Int} (hl:aD h.g v=true) {a b:Int} (e:oN h v a b=0): ∃fX,HI fX (ir h v a b)/\tY h (ir h v a b) (fun i q=>i=v.toNat/\q=a) (-1)/\(dm h v.toNat a).2.2.1=0/\dm (ir h v a b) v.toNat a=((dm h v.toNat a).1,b,0,())/\(ir h v a b).g=h.g/\sU gh fX h.s (ir h v a b).s:=by
 obtain⟨x,hx,sS,hv, _⟩:=bG hl
 unfold oN at e
 unfold ir
 split at e
 ·exact absurd e (by decide)
 rename_i c1
 rw[if_neg c1]
 split at e
 ·exact absurd e (by decide)
 rename_i c2
 rw[if_neg c2]
 split at e
 ·exact absurd e (by decide)
 rename_i c3
 rw[if_neg c3]
 rw[sS] at e ⊢
 obtain⟨n,rfl⟩: ∃n:Nat,v=(n:Int):=⟨v.toNat,hv.symm⟩
 have hx:h.g n=some x:=hx
 obtain⟨hp,g',C,q1,q2, _⟩:=H.inv.qJ (H.root hx) e
 have hfr:kI h n a=some (aV h.s x.root false a).1:=by rw[cw hx,if_pos q1]
 have hF:=H.vf hx (s1:=h.s) (fun _ _=>rfl) H.inv C (y:=some (aV h.s x.root false a).1) (by rw[q2,if_pos rfl]) (h':=bh h (pJ h.s (n:Int) x.root false a b)) rfl (fun _=>rfl)
 rw[Hu hfr] at hF
 rw[show((n:Int)).toNat=n from rfl]
 have wX:(bh h (pJ h.s (n:Int) x.root false a b)).g n=some x:=hx
 refine⟨g',H.base C ⟨rfl,rfl⟩ H.nl rfl (fun _=>rfl) ?_,⟨H.Ct (fun _ _=>rfl) H.inv C (h':=bh h (pJ h.s (n:Int) x.root false a b)) rfl (fun _=>rfl),fun{m d d'} h1 h4 _ _ _=>C.kp.ws h1 h4,C.kd⟩,by rw[bH hx];exact q1,by rw[bH hx,bH wX];exact q2,rfl,C.Tg⟩
 rw[hF]
 exact Kept.hc H.hc C.kp
theorem zB {v a b:Int} (e:oN h v a b≠0):ir h v a b=h:=by
 unfold oN at e
 unfold ir
 split
 ·rfl
 rename_i c1
 rw[if_neg c1] at e
 split
 ·rfl
 rename_i c2
 rw[if_neg c2] at e
 split
 ·rfl
 rename_i c3
 rw[if_neg c3] at e
 rw[OL e];rfl
theorem qJ (H:HI gh h) {v:Int} (hl:aD h.g v=true) (a b:Int): ∃fX,HI fX (ir h v a b):=by
 by_cases e:oN h v a b=0
 ·obtain⟨g',H', _⟩:=H.EL hl e
  exact⟨g',H'⟩
 ·rw[zB e];exact⟨gh,H⟩
end HI
end
end Go.Proofs.YtdnoecpjcoibmaaGreat
namespace Go.Proofs.YtdnoecpjcoibmaaGreat
set_option maxRecDepth 100000
open Go.RX D
section
variable {gh:Gh} {h:HS}
theorem gJ {gh:Gh} {s s':WD} (I:Inv gh s) (hl:s'.1.length=s.1.length/\s'.2.length=s.2.length)
 (hw: ∀b:Int,cZ s'.1 b≠cZ s.1 b-> ∃(n:Nat) (d:DT),s.2[n]? =some d/\d.1≠3/\16*(n:Int)<=b/\b<16*(n:Int)+16)
 (hd: ∀{n:Nat} {d d':DT},s.2[n]? =some d->s'.2[n]? =some d'->(d'=d\/(d.1≠3/\d'.1≠3/\(d'.1=0->d'=zD)))):Inv.fe gh s s' where
 len:=hl
 ws:=fun{f o x k l} hf h0 h1=>by
  refine Classical.byContradiction fun hne=>?_
  obtain⟨n,d,e1,e2,e3,e4⟩:=hw _ hne
  have hk:=I.kd hf
  have e:f.toNat=n:=by omega
  have h3:=hk.2.2.1
  rw[e,e1] at h3
  cases h3
  exact e2 rfl
 tb:=fun{n d} h h3=>by
  have hn:n<s'.2.length:=by rw[hl.2];exact(List.getElem?_eq_some_iff.1 h).1
  have h':s'.2[n]? =some s'.2[n]:=List.getElem?_eq_getElem hn
  rcases hd h h' with e|⟨e, _⟩
  ·rw[h',e]
  ·exact absurd h3 e
 bt:=fun{n d} h h3=>by
  have hn:n<s.2.length:=by rw[<-hl.2];exact(List.getElem?_eq_some_iff.1 h).1
  have h':s.2[n]? =some s.2[n]:=List.getElem?_eq_getElem hn
  rcases hd h' h with e|⟨_,e, _⟩
  ·rw[h',e]
  ·exact absurd h3 e
 fz:=fun d hm h0=>by
  obtain⟨n,hn⟩:=List.getElem?_of_mem hm
  have HU:n<s.2.length:=by rw[<-hl.2];exact(List.getElem?_eq_some_iff.1 hn).1
  have h':s.2[n]? =some s.2[n]:=List.getElem?_eq_getElem HU
  rcases hd h' hn with e|⟨_, _,e⟩
  ·rw[e] at h0 ⊢
   exact I.fz _ (List.mem_of_getElem? h') h0
  ·exact e h0
theorem js {ds:List DT} {n m:Nat} {d0 d1 d d':DT} (h0:ds[n]? =some d0) (h:ds[m]? =some d) (h':(ds.set n d1)[m]? =some d'):(m=n/\d=d0/\d'=d1)\/(m≠n/\d'=d):=by
 by_cases e:n=m
 ·subst e
  rw[List.getElem?_set_self (List.getElem?_eq_some_iff.1 h0).1] at h'
  rw[h0] at h
  cases h;cases h'
  exact .inl ⟨rfl,rfl,rfl⟩
 ·rw[List.getElem?_set_ne e,h] at h'
  cases h'
  exact .inr ⟨fun c=>e c.symm,rfl⟩
namespace HI
theorem Qs (H:HI gh h) {i:Nat} {p f:Int} (hf:kI h i p=some f): ∃(n:Nat) (d:DT),f=(n:Int)/\h.s.2[n]? =some d/\d.1=4/\1<=d.2.1/\d.2.1<=16/\d=(4,d.2.1,(c_ (fW h) (n:Int):Int),0,()):=by
 obtain⟨n,d,h1,h2,h3⟩:=H.hc.X_ hf
 obtain⟨j,q,k1,k2, _⟩:=H.hc.Ib h2 h3
 have:=H.hc.dom k2
 obtain⟨_,e1, _⟩:=H.hc.kd h2
 have e2:=H.hc.refs h2
 refine⟨n,d,h1.symm,h2,h3,by omega,by omega,?_⟩
 obtain⟨a,b,c,e,u⟩:=d
 dsimp only at h3 e1 e2
 rw[h3,e1,e2]
structure UJ (h h':HS) (v:Nat) (a b:Int) (f:Nat):Prop where
 g:h'.g=h.g
 gr:h'.gr=h.gr
 po:h'.po=h.po
 ZR:(dm h v a).2.2.1=4
 pg:dm h' v a=((f:Int),b,0,())
 fr:h.s.2[f]? =some zD
 f4:h'.s.2[f]? =some (4,(v:Int),0,0,())
 ef:tY h h' (fun i q=>i=v/\q=a) (f:Int)
 zr: ∀k:Int,0<=k->k<16->cZ h'.s.1 (16*(f:Int)+k)=0
 ct:aX h.s.2 0<=aX h'.s.2 0+4
theorem zc (H:HI gh h) {v:Int} (hl:aD h.g v=true) {a b:Int} (he:ju h v a b=0): ∃fX f,HI fX (gQ h v a b)/\UJ h (gQ h v a b) v.toNat a b f/\gy h v=(f:Int)/\sU gh fX h.s (gQ h v a b).s:=by
 obtain⟨x,hx,sS,hv,uo,tX⟩:=bG hl
 unfold ju at he
 unfold gQ
 by_cases Pm:a>=65536
 ·rw[if_pos Pm] at he;exact absurd he (by decide)
 rw[if_neg Pm] at he ⊢
 by_cases BC:b<1\/b>7
 ·rw[if_pos BC] at he;exact absurd he (by decide)
 rw[if_neg BC] at he ⊢
 by_cases e0:dj h.s.2 4 v=0
 case neg=>rw[if_pos e0] at he;exact absurd he e0
 rw[if_neg (fun e=>e e0)] at he ⊢
 obtain⟨n,wU,hn2,t1,t2,t3⟩:=qb (sI e0) H.inv.fz ⟨uo,tX⟩
 have hF:gy h v=(n:Int):=t1
 have hT:gx h v=(h.s.1,h.s.2.set n (4,v,0,0,())):=by unfold gx;rw[t3]
 have hM:pK h v a b=iP (gx h v) v (aT h.g v) false a (gy h v) b:=rfl
 rw[if_neg (fun e=>e he)]
 rw[hM,hF,sS]
 rw[hF,sS] at he
 obtain⟨m,rfl⟩: ∃m:Nat,v=(m:Int):=⟨v.toNat,hv.symm⟩
 have hx:h.g m=some x:=hx
 have hlen:=H.sz
 have B:Inv.fe gh h.s (gx h (m:Int)):=by
  rw[hT]
  refine gJ H.inv ⟨rfl,by rw[List.length_set]⟩ (fun b hb=>absurd rfl hb) fun{i d d'} h1 h2=>?_
  rcases js hn2 h1 h2 with ⟨_,e1,e2⟩|⟨_,e2⟩
  ·exact .inr ⟨by rw[e1];decide,by rw[e2];exact(show ¬ (4:Int)=3 by decide),fun c=>by rw[e2] at c;exact absurd c (show ¬ (4:Int)=0 by decide)⟩
  ·exact .inl e2
 have I1:=H.inv.beside B
 obtain⟨hp,g',C,q1,q2,q3, _,⟨f0,j,hE,hc⟩, _⟩:=I1.map (H.root hx) he
 have hj:=(I1.kd hE.1).2.2.2.2.2
 have ZS:aX (gx h (m:Int)).2 0+1=aX h.s.2 0:=by
  rw[hT]
  have:=nZ (d':=((4:Int),(m:Int),(0:Int),(0:Int),())) hn2 0
  rw[if_pos (show zD.1=0 from rfl),if_neg (show ¬ (4:Int)=0 by decide)] at this
  exact this
 have hfn:kI h m a=none:=by
  rw[cw hx, <-H.inv.cX B (H.root hx),if_neg (by rw[q3];decide)]
 have P_:HC (lN (kI h) m a (some (n:Int))) (fW h) (gx h (m:Int)).2 h.gr:=by
  rw[hT]
  exact H.hc.Cs (by omega) hp hn2 rfl hfn
 have Fa:=Kept.hc P_ C.kp
 have kp:=C.kp
 have Yf:(gx h (m:Int)).1=h.s.1:=rfl
 generalize iP (gx h (m:Int)) (m:Int) x.root false a (n:Int) b=s2 at*
 have oz:=H.vf hx (fun{i z} hz q=>H.inv.cX B (H.root hz) q) I1 C (y:=some (n:Int)) (by rw[q1,if_pos rfl]) (h':=bh h s2) rfl (fun _=>rfl)
 have H2:HI g' (bh h s2):=H.base C B.len (Inv.lC B H.nl) rfl (fun _=>rfl) (by rw[oz];exact Fa)
 have Wo:s2.2[n]? =some (4,(m:Int),0,0,()):=C.kp.ks (by rw[hT];exact List.getElem?_set_self wU) rfl
 have HU:s2.2.length=h.s.2.length:=by rw[C.len.2,B.len.2]
 have Mz:s2.1.length=h.s.1.length:=by rw[C.len.1,B.len.1]
 have Pg:(ew s2.1 (n:Int) (fun _=>0) 16).length=s2.1.length:=fV _ _ _ _
 have HZ: ∀b,cZ (ew s2.1 (n:Int) (fun _=>0) 16) b=if 16*(n:Int)<=b/\b<16*(n:Int)+16 then 0 else cZ s2.1 b:=fun b=>qL (by omega) (by omega) 16 (Nat.le_refl _) b
 generalize ew s2.1 (n:Int) (fun _=>0) 16=W at Pg HZ ⊢
 have B2:Inv.fe g' s2 (W,s2.2):=by
  refine gJ C.inv ⟨Pg,rfl⟩ (fun b hb=>⟨n, _,Wo,(show ¬ (4:Int)=3 by decide),?_⟩) fun{i d d'} h1 h2=>?_
  ·refine Classical.byContradiction fun hc=>hb ?_
   show cZ W b= _
   rw[HZ b,if_neg hc]
  ·rw[h1] at h2;cases h2;exact .inl rfl
 have H3:=H2.side (wG:=h.gr) (Ia:=h.po) B2 H2.hc
 have hq: ∀{i:Nat} {q:Int},dm {s:=(W,s2.2),g:=h.g,gr:=h.gr,po:=h.po} i q=dm (bh h s2) i q:=fun{i q}=>by
  cases hi:h.g i with
  |none=>unfold dm;rw[show(bh h s2).g i=none from hi];dsimp only;rw[hi]
  |some z=>rw[bH (h:=bh h s2) hi,bH (h:={s:=(W,s2.2),g:=h.g,gr:=h.gr,po:=h.po}) hi];exact C.inv.cX B2 (H2.root hi) q
 refine⟨g',n,H3,⟨rfl,rfl,rfl,?_,?_,hn2,Wo,⟨⟨fun{i q} hn=>?_⟩,fun{i d d'} hd h4 _ _ hne k k0 k1=>?_,KD.trans (t:=gx h (m:Int)) (by rw[hT];exact KD.set hn2 (fun c=>absurd c (by decide)) (fun c=>absurd c (by decide))) (C.kd.trans (.refl rfl))⟩,fun k k0 k1=>?_,?_⟩,rfl,((sU.kd (by rw[hT];exact KD.set hn2 (fun c=>absurd c (by decide)) (fun c=>absurd c (by decide))) (fun _ _ _ _ _=>by rw[Yf])).trans C.Tg).trans (sU.kd (.refl rfl) fun{i d} hd h5 k k0 k1=>?_)⟩
 ·rw[show((m:Int)).toNat=m from rfl,bH hx, <-H.inv.cX B (H.root hx)];exact q3
 ·exact hq.trans ((bH (h:=bh h s2) hx a).trans q1)
 ·exact hq.trans ((H.Ct (fun{i z} hz q=>H.inv.cX B (H.root hz) q) I1 C (h':=bh h s2) rfl (fun _=>rfl)).to hn)
 ·show cZ W _= _
  rw[HZ,if_neg (by omega)]
  have HW:(gx h (m:Int)).2[i]? =some d:=by
   rw[hT]
   show(h.s.2.set n _)[i]? = _
   rw[List.getElem?_set_ne (by omega)];exact hd
  rw[kp.ws HW h4 k k0 k1,Yf]
 ·show cZ W _= _
  rw[HZ,if_pos (by omega)]
 ·show _<=aX s2.2 0+4
  omega
 ·show cZ W _= _
  have hin:i≠n:=fun c=>by
   subst c
   rw[Wo] at hd;cases hd;exact absurd (show(4:Int)=5 from h5) (by decide)
  rw[HZ,if_neg (by omega)]
theorem ze (H:HI gh h) {v:Int} (hl:aD h.g v=true) {a b:Int} (he:ju h v a b≠0):gQ h v a b=h:=by
 obtain⟨x,hx,sS,hv,uo,tX⟩:=bG hl
 unfold ju at he
 unfold gQ
 split
 ·rfl
 rename_i c1
 rw[if_neg c1] at he
 split
 ·rfl
 rename_i c2
 rw[if_neg c2] at he
 split
 ·rename_i e
  have:gx h v=(h.s.1,h.s.2):=by unfold gx;rw[yf e]
  rw[this];rfl
 rename_i e0
 rw[if_neg e0] at he
 have e0:dj h.s.2 4 v=0:=Classical.byContradiction e0
 rw[if_pos he]
 obtain⟨n,wU,hn2,t1,t2,t3⟩:=qb (sI e0) H.inv.fz ⟨uo,tX⟩
 have hF:gy h v=(n:Int):=t1
 have hT:gx h v=(h.s.1,h.s.2.set n (4,v,0,0,())):=by unfold gx;rw[t3]
 have hM:pK h v a b=iP (gx h v) v (aT h.g v) false a (gy h v) b:=rfl
 rw[hM,Ex he,hT,hF]
 have:=u7 (G:=aE 0 0) (show(h.s.2.set n (4,v,0,0,()))[n]? =some (4,v,0,0,()) from List.getElem?_set_self wU) (Ht ⟨uo,tX⟩)
 dsimp only
 rw[this.1,Ml hn2]
 rfl
theorem Cs (H:HI gh h) {v:Int} (hl:aD h.g v=true) (a b:Int): ∃fX,HI fX (gQ h v a b):=by
 by_cases e:ju h v a b=0
 ·obtain⟨g', _,H', _⟩:=H.zc hl e
  exact⟨g',H'⟩
 ·rw[H.ze hl e];exact⟨gh,H⟩
structure UK (h h':HS) (v:Nat) (a:Int) (f:Nat):Prop where
 g:h'.g=h.g
 ZR:(dm h v a).2.2.1=0/\(dm h v a).1=(f:Int)
 pg:dm h' v a=(0,0,4,())
 f5:h'.s.2[f]? =some (5,(v:Int),0,0,())
 ef:tY h h' (fun i q=>i=v/\q=a) (-1)
theorem JP (H:HI gh h) {v:Int} (hl:aD h.g v=true) {a:Int} (e:uP h v a=0): ∃fX f,HI fX (mM h v a)/\UK h (mM h v a) v.toNat a f/\sU gh fX h.s (mM h v a).s:=by
 obtain⟨x,hx,sS,hv,uo,tX⟩:=bG hl
 unfold mM
 rw[if_pos e]
 obtain⟨m,rfl⟩: ∃m:Nat,v=(m:Int):=⟨v.toNat,hv.symm⟩
 have hx:h.g m=some x:=hx
 have hq:cL h.g h.s (m:Int) a=aV h.s x.root false a:=by
  unfold cL;rw[if_pos hl]
  show(match h.g m with|some x=> _|none=> _)= _
  rw[hx]
 unfold uP at e
 rw[hq] at e ⊢
 rw[sS]
 split at e
 ·exact absurd e (by decide)
 split at e
 ·rename_i c;exact absurd e c
 rename_i c1
 have c1:(aV h.s x.root false a).2.2.1=0:=Classical.byContradiction c1
 split at e
 ·exact absurd e (by decide)
 rename_i c2
 split at e
 ·exact absurd e (by decide)
 rename_i c3
 have hfr:kI h m a=some (aV h.s x.root false a).1:=by rw[cw hx,if_pos c1]
 obtain⟨n,d,hfn,hd,d4,Vk,Vl,MR⟩:=H.Qs hfr
 have Aq:a9 (fW h m) a=none:=by
  cases ht:a9 (fW h m) a with
  |none=>rfl
  |some y=>
   refine absurd ((qW hl (x:=x) hx).2 ?_) c2
   rw[bX hx] at ht
   unfold H_
   rw[show h.g ((m:Int)).toNat=some x from hx]
   dsimp only
   rw[ht];rfl
 rw[hfn] at c3 hfr ⊢
 rw[kF hd] at c3
 have Qr:c_ (fW h) (n:Int)=0:=by
  have:=H.hc.refs hd
  omega
 have hp:=(H.inv.JL (H.root hx) c1).1
 obtain⟨g',C,q1, _⟩:=H.inv.Ay (H.root hx) hp (H.inv.TM H.nl (H.root hx) hp c1)
 have Fa:=Kept.hc H.hc C.kp
 generalize lK h.s (m:Int) x.root false a=s2 at*
 have sV:=C.kp.ks hd d4
 rw[Qr] at MR
 have MR:d=(4,d.2.1,0,0,()):=MR
 have ZT:d.2.1=(m:Int):=by
  obtain⟨n',d',e1,e2, _,e4⟩:=H.hc.own hfr Aq
  have:n'=n:=Int.ofNat.inj e1
  subst this
  rw[hd] at e2;cases e2
  exact e4
 rw[ZT] at MR
 rw[MR] at sV
 have nP:=u7 (G:=aE 5 (m:Int)) sV (yx ⟨by omega,by omega⟩)
 rw[nP.1]
 have Pd:=Fa.zA (o:=(m:Int)) ⟨by omega,by omega⟩ hfr Aq Qr
 have B2:Inv.fe g' s2 (s2.1,s2.2.set n (5,(m:Int),0,0,())):=by
  refine gJ C.inv ⟨rfl,by rw[List.length_set]⟩ (fun b hb=>absurd rfl hb) fun{i d d'} h1 h2=>?_
  rcases js sV h1 h2 with ⟨_,e1,e2⟩|⟨_,e2⟩
  ·exact .inr ⟨by rw[e1];exact(show ¬ (4:Int)=3 by decide),by rw[e2];exact(show ¬ (5:Int)=3 by decide),fun c=>by rw[e2] at c;exact absurd c (show ¬ (5:Int)=0 by decide)⟩
  ·exact .inl e2
 have oz:=H.vf hx (fun{i z} hz q=>rfl) H.inv C (y:=none) (by rw[q1];rfl) (h':=bh h s2) rfl (fun _=>rfl)
 have z_:kI (bh h (s2.1,s2.2.set n (5,(m:Int),0,0,())))=kI (bh h s2):=by
  funext i p
  cases hz:h.g i with
  |none=>exact(eH (h:=bh h (s2.1,s2.2.set n (5,(m:Int),0,0,()))) hz p).trans (eH (h:=bh h s2) hz p).symm
  |some z=>
   refine(cw (h:=bh h (s2.1,s2.2.set n (5,(m:Int),0,0,()))) hz p).trans (Eq.trans ?_ (cw (h:=bh h s2) hz p).symm)
   show(if(aV (s2.1,s2.2.set n (5,(m:Int),0,0,())) z.root false p).2.2.1=0 then some (aV (s2.1,s2.2.set n (5,(m:Int),0,0,())) z.root false p).1 else none)=if(aV s2 z.root false p).2.2.1=0 then some (aV s2 z.root false p).1 else none
   rw[C.inv.cX B2 (C.root.to (H.root hz))]
 have wX:(bh h s2).g m=some x:=hx
 have hlt:n<s2.2.length:=(List.getElem?_eq_some_iff.1 sV).1
 have sp: ∀P,Ag (bh h s2) (bh h (s2.1,s2.2.set n (5,(m:Int),0,0,()))) P:=fun P=>⟨fun{i q} _=>by
  cases hz:h.g i with
  |none=>exact(eC (h:=bh h (s2.1,s2.2.set n (5,(m:Int),0,0,()))) hz q).trans (eC (h:=bh h s2) hz q).symm
  |some z=>exact(bH (h:=bh h (s2.1,s2.2.set n (5,(m:Int),0,0,()))) hz q).trans ((C.inv.cX B2 (C.root.to (H.root hz)) q).trans (bH (h:=bh h s2) hz q).symm)⟩
 suffices hh:HI g' (bh h (s2.1,s2.2.set n (5,(m:Int),0,0,()))) from⟨g',n,hh,⟨rfl,by rw[show((m:Int)).toNat=m from rfl,bH hx];exact⟨c1,hfn⟩,((sp (fun _ _=>False)).to (fun c=>c)).trans ((bH wX a).trans q1),List.getElem?_set_self hlt,Ag.trans (H.Ct (fun _ _=>rfl) H.inv C (h':=bh h s2) rfl (fun _=>rfl)) (sp _),fun{i d d'} h1 h4 _ _ _=>C.kp.ws h1 h4,C.kd.trans (KD.set sV (fun _=> .inr rfl) (fun c=>absurd (show(4:Int)=5 from c) (by decide)))⟩,C.Tg.trans (sU.kd (KD.set sV (fun _=> .inr rfl) (fun c=>absurd (show(4:Int)=5 from c) (by decide))) fun _ _ _ _ _=>rfl)⟩
 exact{inv:=C.inv.beside B2,rt:=H.rt.keep C.root,nl:=Inv.lC B2 (C.lg (fun o q q' a b=>a.2.trans b.2.symm) H.nl),sz:=by
        show s2.1.length=16*(s2.2.set n (5,(m:Int),0,0,())).length
        rw[List.length_set,C.len.1,C.len.2];exact H.sz
       ,dom:=H.dom,root:=fun{i z} hz=>C.root.to (H.root hz),own:=fun{f o y} hf=>H.own ((C.root o f y).1 hf),hc:=by rw[z_,oz];exact Pd}
theorem zA (H:HI gh h) {v:Int} (hl:aD h.g v=true) (a:Int): ∃fX,HI fX (mM h v a):=by
 by_cases e:uP h v a=0
 ·obtain⟨g', _,H', _⟩:=H.JP hl e
  exact⟨g',H'⟩
 ·rw[show mM h v a=h from if_neg e];exact⟨gh,H⟩
end HI
end
end Go.Proofs.YtdnoecpjcoibmaaGreat
namespace Go.Proofs.YtdnoecpjcoibmaaGreat
set_option maxRecDepth 100000
open Go.RX D
theorem yy (k:Nat): ∀l:List TK,(∀t∈l,0<=t.2.1/\t.2.1<(k:Int))->l.length<=((List.range k).map fun a=>l.countP fun t=>t.2.1==((a:Nat):Int)).sum
 |[], _=>Nat.zero_le _
 |t::l,h=>by
  have ih:=yy k l fun u hu=>h u (List.mem_cons_of_mem _ hu)
  have ht:=h t List.mem_cons_self
  have e:(fun a:Nat=>(t::l).countP fun t=>t.2.1==((a:Nat):Int))=jx (fun a:Nat=>l.countP fun t=>t.2.1==((a:Nat):Int)) t.2.1.toNat (l.countP (fun u=>u.2.1==((t.2.1.toNat:Nat):Int))+1):=by
   funext a
   rw[List.countP_cons]
   by_cases e:a=t.2.1.toNat
   ·subst e
    rw[jo,if_pos (by simp;omega)]
   ·rw[lZ e,if_neg (by simp;omega)];rfl
  have:=zy (fun a:Nat=>l.countP fun t=>t.2.1==((a:Nat):Int)) t.2.1.toNat (l.countP (fun u=>u.2.1==((t.2.1.toNat:Nat):Int))+1) k
  rw[if_pos (by omega),if_pos (by omega)] at this
  rw[e,List.length_cons]
  omega
theorem JQ {f:Nat->Nat} {c:Nat}: ∀l:List Nat,(∀x∈l,f x<=c)->(l.map f).sum<=c*l.length
 |[], _=>Nat.zero_le _
 |x::l,h=>by
  have:=JQ l fun y hy=>h y (List.mem_cons_of_mem _ hy)
  have:=h x List.mem_cons_self
  rw[List.map_cons,List.sum_cons,List.length_cons,Nat.mul_add]
  omega
theorem Hv (tk:Nat->List TK) (q:TK->Bool):kN tk q=((List.range 17).flatMap tk).countP q:=by
 unfold kN
 rw[List.countP_flatMap];rfl
theorem Hw (l:List TK) (k c:Nat) (h: ∀t∈l,0<=t.2.1/\t.2.1<(k:Int)) (hb: ∀a:Nat,a<k->(l.countP fun t=>t.2.1==((a:Nat):Int))<=c):l.length<=c*k:=by
 have h1:=yy k l h
 have h2:=JQ (f:=fun a:Nat=>l.countP fun t=>t.2.1==((a:Nat):Int)) (c:=c) (List.range k) fun a ha=>hb a (List.mem_range.1 ha)
 rw[List.length_range] at h2
 exact Nat.le_trans h1 h2
namespace HC
variable {fr:DH} {tk:Nat->List TK} {ds:List DT} {gr:List GT}
theorem ids (H:HC fr tk ds gr) {i:Nat} {t:TK} (h:t∈tk i):0<=t.2.1/\t.2.1<((16:Nat):Int):=by
 obtain⟨_,o, _,k,x,h1,h2, _⟩:=H.uJ (a:=t.2.1) (f:=t.2.2) (H.Cc h)
 obtain⟨k1,k2, _⟩:=dZ.1 h1
 have:=H.gl
 omega
theorem EM (H:HC fr tk ds gr) (f:Int):c_ tk f<=16000:=by
 have h0: ∀q,kN tk q=((List.range 17).flatMap tk).countP q:=Hv tk
 have hid: ∀t∈(List.range 17).flatMap tk,0<=t.2.1/\t.2.1<((16:Nat):Int):=fun t ht=>by
  obtain⟨i, _,hi⟩:=List.mem_flatMap.1 ht
  exact H.ids hi
 have hu: ∀a:Nat,a<16->kN tk (fun t=>t.2.1==((a:Nat):Int))<=1000:=fun a ha=>by
  have P2:a<gr.length:=by rw[H.gl];exact ha
  have hx:gr[a]? =some gr[a]:=List.getElem?_eq_getElem P2
  have hu:=H.rV hx
  have:=(H.gk _ (List.mem_of_getElem? hx)).2
  unfold kW at hu
  omega
 unfold c_
 rw[h0]
 generalize (List.range 17).flatMap tk=LL at h0 hid
 have h1:=List.countP_le_length (p:=fun t:TK=>t.2.2==f) (l:=LL)
 have h2:=Hw LL 16 1000 hid fun a ha=>by rw[<-h0];exact hu a ha
 omega
end HC
theorem Hx {gr:List GT} {k:Nat} {x:GT} (h:gr[k]? =some x) (y:GT):(gr.set k y).set k x=gr:=by
 apply List.ext_getElem?
 intro i
 have hn:k<gr.length:=(List.getElem?_eq_some_iff.1 h).1
 by_cases e:k=i
 ·subst e
  rw[List.getElem?_set_self (by rw[List.length_set];exact hn),h]
 ·rw[List.getElem?_set_ne e,List.getElem?_set_ne e]
section
variable {gh fX:Gh} {h:HS}
theorem HI.fin (H:HI gh h) {v:Nat} {p:Int} {s1 s2 s3:WD} (C:qo (mz (v:Int) 0 p) (v:Int) gh fX s1 s2) (ZU:xe gh s1) (hl:s1.1.length=h.s.1.length/\s1.2.length=h.s.2.length) (B:Inv.fe fX s2 s3) {h':HS} (hs:h'.s=s3) (hg: ∀i,(h'.g i).map GV.root=(h.g i).map GV.root)
 {F:DH} (hF:kI {h' with s:=s2}=F) (hc:HC F (fW h') s3.2 h'.gr):HI fX h':=by
 have SE: ∀{i:Nat} {x:GV},h'.g i=some x-> ∃z,h.g i=some z/\x.root=z.root:=fun{i x} hx=>by
  have hi:=hg i
  rw[hx] at hi
  cases hc:h.g i with
  |none=>rw[hc] at hi;cases hi
  |some z=>rw[hc] at hi;exact⟨z,rfl,by simpa using hi⟩
 have u6: ∀{i:Nat} {x:GV},h'.g i=some x->fX x.root=some ((i:Int),3,0):=fun{i x} hx=>by
  obtain⟨z,hz,hr⟩:=SE hx
  rw[hr];exact C.root.to (H.root hz)
 refine⟨by rw[hs];exact C.inv.beside B,H.rt.keep C.root,by rw[hs];exact Inv.lC B (C.lg (fun o q q' a b=>a.2.trans b.2.symm) ZU),?_,fun{i x} hx=>?_,u6,fun{f o y} hf=>?_,?_⟩
 ·rw[hs,B.len.1,B.len.2,C.len.1,C.len.2,hl.1,hl.2];exact H.sz
 ·obtain⟨z,hz, _⟩:=SE hx
  exact H.dom hz
 ·obtain⟨i,x,h1,h2⟩:=H.own ((C.root o f y).1 hf)
  have hi:=hg i
  rw[h2] at hi
  cases hc:h'.g i with
  |none=>rw[hc] at hi;cases hi
  |some z=>exact⟨i,z,h1,hc⟩
 ·have e:kI h'=F:=by
   rw[<-hF]
   funext i q
   cases hz:h'.g i with
   |none=>exact(eH hz q).trans (eH (h:={h' with s:=s2}) hz q).symm
   |some z=>
    refine(cw hz q).trans (Eq.trans ?_ (cw (h:={h' with s:=s2}) hz q).symm)
    show _=if(aV s2 z.root false q).2.2.1=0 then some (aV s2 z.root false q).1 else none
    rw[hs,C.inv.cX B (u6 hz)]
  rw[e,hs]
  exact hc
theorem HI.EN (H:HI gh h) {v:Nat} {p:Int} {s2 s3:WD} (C:qo (mz (v:Int) 0 p) (v:Int) gh fX h.s s2) (B:Inv.fe fX s2 s3) (hw:s3.1=s2.1) (hk:KD s2 s3) {h':HS} (hs:h'.s=s3) (hg: ∀i,(h'.g i).map GV.root=(h.g i).map GV.root):
 tY h h' (fun i q=>i=v/\q=p) (-1)/\ ∀{i:Nat} {x:GV},h.g i=some x-> ∀q,dm h' i q=aV s2 x.root false q:=by
 have SE: ∀{i:Nat} {x:GV},h.g i=some x-> ∃z,h'.g i=some z/\z.root=x.root:=fun{i x} hx=>by
  have hi:=hg i
  rw[hx] at hi
  cases hc:h'.g i with
  |none=>rw[hc] at hi;cases hi
  |some z=>rw[hc] at hi;exact⟨z,rfl,by simpa using hi⟩
 have key: ∀{i:Nat} {x:GV},h.g i=some x-> ∀q,dm h' i q=aV s2 x.root false q:=fun{i x} hx q=>by
  obtain⟨z,hz,hr⟩:=SE hx
  rw[bH hz,hs,hr]
  exact C.inv.cX B (C.root.to (H.root hx)) q
 refine⟨⟨⟨fun{i q} hn=>?_⟩,fun{m d d'} h1 h4 _ _ _ k k0 k1=>?_,?_⟩,key⟩
 ·cases hx:h.g i with
  |none=>
   have hi:=hg i
   rw[hx] at hi
   rw[eC hx,eC (by simpa using hi)]
  |some x=>
   rw[key hx,bH hx]
   refine H.inv.vA C.inv C.Ap C.root (o:=(i:Int)) (H.root hx) fun c=>hn ?_
   obtain⟨c1,c2⟩:=c
   exact⟨Int.ofNat.inj c1,c2⟩
 ·rw[hs,hw];exact C.kp.ws h1 h4 k k0 k1
 ·rw[hs];exact C.kd.trans hk
theorem me {g:Gh} {s:WD} (I:Inv g s) {n:Nat} {o r r':Int} (hd:s.2[n]? =some (4,o,r,0,())):Inv.fe g s (s.1,s.2.set n (4,o,r',0,())):=
 gJ I ⟨rfl,by rw[List.length_set]⟩ (fun b hb=>absurd rfl hb) fun{i d d'} h1 h2=>by
  rcases js hd h1 h2 with ⟨_,e1,e2⟩|⟨_,e2⟩
  ·exact .inr ⟨by rw[e1];exact(show ¬ (4:Int)=3 by decide),by rw[e2];exact(show ¬ (4:Int)=3 by decide),fun c=>by rw[e2] at c;exact absurd c (show ¬ (4:Int)=0 by decide)⟩
  ·exact .inl e2
theorem jt {g:Nat->Option GV} {n:Nat} {x:GV} (hx:g n=some x) (tk:List TK) (i:Nat):(aS g n (some {x with tk:=tk}) i).map GV.root=(g i).map GV.root:=by
 unfold aS
 by_cases e:i=n
 ·subst e;rw[if_pos rfl,hx];rfl
 ·rw[if_neg e]
theorem EO {h':HS} {g:Nat->Option GV} {n:Nat} {x:GV} (hx:h.g n=some x) (tk:List TK) (hg:h'.g=aS h.g n (some {x with tk:=tk})):fW h'=jx (fW h) n tk:=by
 funext i
 unfold fW jx
 rw[hg]
 unfold aS
 by_cases e:i=n
 ·rw[if_pos e,if_pos e]
 ·rw[if_neg e,if_neg e]
def Ik (ds:List DT) (n:Nat) (o:Int):Prop:= ∃d:DT,ds[n]? =some d/\d.1=4/\d.2.1=o
theorem Kept.Ib {s s':WD} (K:Kept s s') (n:Nat) (o:Int):Ik s'.2 n o<->Ik s.2 n o:=by
 constructor
 ·rintro⟨d,h1,h2,h3⟩
  rcases K.nw h1 with h|⟨h, _⟩
  ·exact⟨d,h,h2,h3⟩
  ·omega
 ·rintro⟨d,h1,h2,h3⟩
  exact⟨d,K.ks h1 h2,h2,h3⟩
theorem OX {ds:List DT} {n:Nat} {o r r':Int} (h:ds[n]? =some (4,o,r,0,())) (m:Nat) (o':Int):Ik (ds.set n (4,o,r',0,())) m o'<->Ik ds m o':=by
 have hn:n<ds.length:=(List.getElem?_eq_some_iff.1 h).1
 unfold Ik
 by_cases e:n=m
 ·subst e
  rw[List.getElem?_set_self hn,h]
  constructor
  ·rintro⟨d,h1,h2,h3⟩;cases h1;exact⟨_,rfl,rfl,h3⟩
  ·rintro⟨d,h1,h2,h3⟩;cases h1;exact⟨_,rfl,rfl,h3⟩
 ·rw[List.getElem?_set_ne e]
theorem HI.B_ (H:HI gh h) {v:Nat} {p id f:Int} {x:GV} (hx:h.g v=some x) (ht:a9 x.tk p=some (id,f)): ∃fX,HI fX (cM h (v:Int) p id f)/\(∀n o,Ik (cM h (v:Int) p id f).s.2 n o<->Ik h.s.2 n o)/\tY h (cM h (v:Int) p id f) (fun i q=>i=v/\q=p) (-1)/\dm (cM h (v:Int) p id f) v p=(0,0,4,())/\sU gh fX h.s (cM h (v:Int) p id f).s:=by
 have Pq:a9 (fW h v) p=some (id,f):=by rw[bX hx];exact ht
 obtain⟨hfr,o,ho,hgt⟩:=H.hc.uJ Pq
 obtain⟨k,y,g1,g2,g3,g4, _⟩:=hgt
 obtain⟨n,d,hfn,hd,d4,Vk,Vl,MR⟩:=H.Qs hfr
 subst hfn
 obtain⟨k1,k2,k3⟩:=dZ.1 g1
 rw[getD_some g2] at k3
 subst k1
 have Wp:aT h.g (v:Int)=x.root:=by
  have hd:=H.dom hx
  unfold aT
  rw[if_pos (dw.2 ⟨by omega,x,hx⟩)]
  show(match h.g v with|some x=>x.root|none=> -1)= _
  rw[hx]
 have UX:(aV h.s x.root false p).2.2.1=0:=by
  rw[cw hx] at hfr
  by_cases c:(aV h.s x.root false p).2.2.1=0
  ·exact c
  ·rw[if_neg c] at hfr;cases hfr
 have hp:=(H.inv.JL (H.root hx) UX).1
 obtain⟨g',C,q1, _⟩:=H.inv.Ay (H.root hx) hp (H.inv.TM H.nl (H.root hx) hp UX)
 have Td:=H.dom hx
 have hpos:0<c_ (fW h) (n:Int):=l5 (q:=fun t=>t.2.2==(n:Int)) (by omega:v<17) (H.hc.Cd Pq) (by simp)
 have YC:0<kW (fW h) (k:Int):=l5 (q:=fun t=>t.2.1==(k:Int)) (by omega:v<17) (H.hc.Cd Pq) (by simp)
 have Xk:=H.hc.EM (n:Int)
 have ZV:kB h.gr (k:Int) (v:Int)=0:=by
  unfold kB
  rw[g1]
  dsimp only
  rw[getD_some g2,if_neg (by rw[g4];simp),if_neg (by rw[H.hc.rV g2];omega)]
 have Yg:dO h.gr (k:Int) (v:Int)=h.gr.set k (eV y (-1)):=by
  unfold dO
  rw[if_pos ZV]
  show h.gr.set k (eV (h.gr.getD k zG) (-1))= _
  rw[getD_some g2]
 have Fa:=Kept.hc H.hc C.kp
 have hG:cM h (v:Int) p (k:Int) (n:Int)={s:=((lK h.s (v:Int) x.root false p).1,fQ (lK h.s (v:Int) x.root false p).2 (n:Int) (gN (-1))),g:=aS h.g v (some {x with tk:=x.tk.filter fun t=> !(t.1==p)}),gr:=h.gr.set k (eV y (-1)),po:=h.po}:=by
  unfold cM
  rw[Wp,Yg]
  show HS.mk _ (aS h.g v (match h.g v with|some x=> _|none=>none)) _ _= _
  rw[hx]
 rw[hG]
 generalize lK h.s (v:Int) x.root false p=s2 at*
 have sV:=C.kp.ks hd d4
 rw[MR] at sV
 have nP:=u7 (G:=gN (-1)) sV (TN ⟨Vk,Vl⟩ ⟨by omega,by omega⟩ ⟨by omega,by omega⟩)
 rw[nP.1]
 have hok:kJ (h.gr.set k (eV y (-1))):=by rw[<-Yg];exact H.hc.gk.back _ _
 have Pd:=Fa.B_ Pq sV g2 k3 hok
 have hE:=H.EN C (me (r':=(c_ (fW h) (n:Int):Int)+ -1) C.inv sV) rfl (KD.set sV (fun _=> .inl rfl) (fun c=>absurd (show(4:Int)=5 from c) (by decide))) (h':={s:=(s2.1,s2.2.set n (4,d.2.1,(c_ (fW h) (n:Int):Int)+ -1,0,())),g:=aS h.g v (some {x with tk:=x.tk.filter fun t=> !(t.1==p)}),gr:=h.gr.set k (eV y (-1)),po:=h.po}) rfl (fun i=>jt hx _ i)
 refine⟨g',H.fin C H.nl ⟨rfl,rfl⟩ (me C.inv sV) rfl (fun i=>jt hx _ i) (H.vf hx (fun{i z} hz q=>rfl) H.inv C (y:=none) (by rw[q1];rfl) rfl (fun i=>jt hx _ i)) ?_,fun m w=>(OX sV m w).trans (C.kp.Ib m w),hE.1,(hE.2 hx p).trans q1,C.Tg.trans (sU.kd (KD.set sV (fun _=> .inl rfl) (fun c=>absurd (show(4:Int)=5 from c) (by decide))) fun _ _ _ _ _=>rfl)⟩
 rw[EO (g:=h.g) hx _ rfl, <-bX hx]
 exact Pd
end
end Go.Proofs.YtdnoecpjcoibmaaGreat
namespace Go.Proofs.YtdnoecpjcoibmaaGreat
set_option maxRecDepth 100000
open Go.RX D
section
variable {gh fX:Gh} {h:HS}
theorem yz {v p:Int} (h0:(cL h.g h.s v p).2.2.1=0):aD h.g v=true/\ ∃x,h.g v.toNat=some x/\cL h.g h.s v p=aV h.s x.root false p:=by
 unfold cL at h0 ⊢
 by_cases hl:aD h.g v=true
 ·obtain⟨x,hx, _⟩:=bG hl
  rw[if_pos hl,hx]
  exact⟨hl,x,rfl,rfl⟩
 ·rw[if_neg hl] at h0;exact absurd h0 (by decide)
theorem Mm {v p:Int} {x:GV} (hl:aD h.g v=true) (hx:h.g v.toNat=some x) (hb: ¬ cI h v p=true):a9 x.tk p=none:=by
 cases ht:a9 x.tk p with
 |none=>rfl
 |some y=>
  refine absurd ((qW hl hx).2 ?_) hb
  unfold H_
  rw[hx]
  dsimp only
  rw[ht];rfl
theorem Mn {gs:List GT} {k:Nat} {x:GT} {v:Int} (h:gs[k]? =some x) (hz:x≠zG) (hv:x.2.2.1=v) (hu:0<=x.2.2.2.2.1) (hok:kJ gs):dO (gs.set k (eV x 1)) (k:Int) v=gs:=by
 have MB:k<gs.length:=(List.getElem?_eq_some_iff.1 h).1
 have h1:(gs.set k (eV x 1))[k]? =some (eV x 1):=List.getElem?_set_self MB
 have ha:jR (gs.set k (eV x 1)) (k:Int)=some k:=dZ.2 ⟨rfl,by rw[List.length_set];exact MB,by rw[getD_some h1];exact uC hok h hz 1⟩
 have hE:kB (gs.set k (eV x 1)) (k:Int) v=0:=by
  unfold kB
  rw[ha]
  dsimp only
  rw[getD_some h1,if_neg (by show ¬ x.2.2.1≠v;rw[hv];simp),if_neg (by show ¬ x.2.2.2.2.1+1=0;omega)]
 unfold dO
 rw[if_pos hE]
 show(gs.set k (eV x 1)).set k (eV ((gs.set k (eV x 1)).getD k zG) (-1))=gs
 rw[getD_some h1]
 have e:eV (eV x 1) (-1)=x:=by
  obtain⟨a,b,c,d,e,u⟩:=x
  unfold eV
  dsimp only
  rw[show e+1+ -1=e by omega]
 rw[e]
 exact Hx h _
theorem UL {v a b c:Int} (hpre:kE h v a b c=0):jv h v a b c=gO h.s (aT h.g v) false b (iy h a).1 (qp c):=by
 unfold kE at hpre
 unfold jv
 split at hpre
 ·exact absurd hpre (by decide)
 rename_i c1
 rw[if_neg c1]
 split at hpre
 ·exact absurd hpre (by decide)
 rename_i c2
 rw[if_neg c2]
 split at hpre
 ·exact absurd hpre (by decide)
 rename_i c3
 rw[if_neg c3]
 split at hpre
 ·exact absurd hpre (by decide)
 rename_i c4
 rw[if_neg c4]
 split at hpre
 ·exact absurd hpre (by decide)
 rename_i c5
 rw[if_neg c5]
 split at hpre
 ·exact absurd hpre (by decide)
 rename_i c6
 rw[if_neg c6,if_neg (fun e=>e hpre)]
theorem HI.EP (H:HI gh h) {v a b c:Int} (hl:aD h.g v=true) (hpre:kE h v a b c=0):
 (jv h v a b c=0-> ∃fX,HI fX (fk h v a b c)/\tY h (fk h v a b c) (fun i q=>i=v.toNat/\q=b) (-1)/\(dm h v.toNat b).2.2.1=4/\dm (fk h v a b c) v.toNat b=((iy h a).1,qp c,0,())/\sU gh fX h.s (fk h v a b c).s)/\(jv h v a b c≠0->xE h v a b c=h):=by
 have hE:=UL hpre
 obtain⟨p4,p5,p6,p7⟩:(iY h a).2.2.1=v/\(iy h a).2.2.1=0/\ ¬ cI h (iY h a).1 (iY h a).2.1=true/\e_ h.gr a v (c==1)=0:=by
  unfold kE at hpre
  split at hpre
  ·exact absurd hpre (by decide)
  split at hpre
  ·exact absurd hpre (by decide)
  split at hpre
  ·exact absurd hpre (by decide)
  split at hpre
  ·exact absurd hpre (by decide)
  rename_i c4
  split at hpre
  ·exact absurd hpre (by decide)
  rename_i c5
  split at hpre
  ·exact absurd hpre (by decide)
  rename_i c6
  exact⟨Classical.byContradiction fun e=>c4 (.inl e),Classical.byContradiction c5,c6,hpre⟩
 obtain⟨x,hx,sS,hv,uo,tX⟩:=bG hl
 obtain⟨k,hk⟩: ∃k,jR h.gr a=some k:=by
  unfold e_ at p7
  cases hk:jR h.gr a with
  |none=>rw[hk] at p7;exact absurd (show(4:Int)=0 from p7) (by decide)
  |some k=>exact⟨k,rfl⟩
 obtain⟨k1,k2,k3⟩:=dZ.1 hk
 have hy:h.gr[k]? =some h.gr[k]:=List.getElem?_eq_getElem k2
 obtain⟨y,ZW⟩: ∃y,y=h.gr[k]:=⟨_,rfl⟩
 rw[<-ZW] at hy
 rw[getD_some hy] at k3
 have hG:iY h a=y:=by
  unfold iY uc
  rw[hk]
  exact getD_some hy
 have hQ:iy h a=cL h.g h.s y.1 y.2.1:=by unfold iy;rw[hG]
 rw[hG] at p4 p6
 rw[hQ] at p5
 obtain⟨hlo,xo,MQ,Yh⟩:=yz p5
 have hto:=Mm hlo MQ p6
 obtain⟨m,rfl⟩: ∃m:Nat,v=(m:Int):=⟨v.toNat,hv.symm⟩
 have hx:h.g m=some x:=hx
 obtain⟨o,ho⟩: ∃o:Nat,y.1=(o:Int):=⟨y.1.toNat,by have:=dw.1 hlo;omega⟩
 have MQ:h.g o=some xo:=by rw[ho] at MQ;exact MQ
 rw[Yh] at p5
 have hfo:kI h o y.2.1=some (aV h.s xo.root false y.2.1).1:=by rw[cw MQ,if_pos p5]
 obtain⟨n,d,hfn,hd,d4,Vk,Vl,MR⟩:=H.Qs hfo
 rw[hfn] at hfo
 have Wq:(iy h a).1=(n:Int):=by rw[hQ,Yh,hfn]
 have Ws:cT h.gr a (m:Int) (c==1)=h.gr.set k (eV y 1):=by
  unfold cT
  rw[if_pos p7, <-k1]
  show h.gr.set k (eV (h.gr.getD k zG) 1)= _
  rw[getD_some hy]
 refine⟨fun e=>?_,fun e=>?_⟩
 ·rw[hE,sS,Wq] at e
  obtain⟨hp,g',C,q1, _,q3, _⟩:=H.inv.map (H.root hx) e
  have Xl:kI h m b=none:=by rw[cw hx,if_neg (by rw[q3];decide)]
  have hok:fk h (m:Int) a b c={s:=((iP h.s (m:Int) x.root false b (n:Int) (qp c)).1,fQ (iP h.s (m:Int) x.root false b (n:Int) (qp c)).2 (n:Int) (gN 1)),g:=aS h.g m (some {x with tk:=ki (b,a,(n:Int)) x.tk}),gr:=h.gr.set k (eV y 1),po:=h.po}:=by
   unfold fk
   rw[sS,Wq,Ws]
   show HS.mk _ (aS h.g m (match h.g m with|some x=> _|none=>none)) _ _= _
   rw[hx]
  rw[hok]
  have Fa:=Kept.hc H.hc C.kp
  generalize iP h.s (m:Int) x.root false b (n:Int) (qp c)=s2 at*
  have sV:=C.kp.ks hd d4
  rw[MR] at sV
  have Xk:=H.hc.EM (n:Int)
  have nP:=u7 (G:=gN 1) sV (TN ⟨Vk,Vl⟩ ⟨by omega,by omega⟩ ⟨by omega,by omega⟩)
  rw[nP.1]
  have Pp:kJ (h.gr.set k (eV y 1)):=by rw[<-Ws];exact H.hc.gk.take _ _ _
  have Pd:=Fa.take hp Xl sV hy k3 ho p4 hfo (by rw[bX MQ];exact hto) Pp
  have Yi:=H.EN C (me (r':=(c_ (fW h) (n:Int):Int)+1) C.inv sV) rfl (KD.set sV (fun _=> .inl rfl) (fun c=>absurd (show(4:Int)=5 from c) (by decide))) (h':={s:=(s2.1,s2.2.set n (4,d.2.1,(c_ (fW h) (n:Int):Int)+1,0,())),g:=aS h.g m (some {x with tk:=ki (b,a,(n:Int)) x.tk}),gr:=h.gr.set k (eV y 1),po:=h.po}) rfl (fun i=>jt hx _ i)
  suffices hh:HI g' {s:=(s2.1,s2.2.set n (4,d.2.1,(c_ (fW h) (n:Int):Int)+1,0,())),g:=aS h.g m (some {x with tk:=ki (b,a,(n:Int)) x.tk}),gr:=h.gr.set k (eV y 1),po:=h.po} from⟨g',hh,Yi.1,by rw[show((m:Int)).toNat=m from rfl,bH hx];exact q3,by rw[Wq];exact(Yi.2 hx b).trans q1,C.Tg.trans (sU.kd (KD.set sV (fun _=> .inl rfl) (fun c=>absurd (show(4:Int)=5 from c) (by decide))) fun _ _ _ _ _=>rfl)⟩
  refine H.fin C H.nl ⟨rfl,rfl⟩ (me C.inv sV) rfl (fun i=>jt hx _ i) (H.vf hx (fun{i z} hz q=>rfl) H.inv C (y:=some (n:Int)) (by rw[q1];rfl) rfl (fun i=>jt hx _ i)) ?_
  rw[EO (g:=h.g) hx _ rfl, <-bX hx, <-k1]
  exact Pd
 ·rw[hE] at e
  unfold xE
  rw[Ex e,Ws, <-k1,Mn hy k3 p4 (H.hc.gk y (List.mem_of_getElem? hy)).2.1 H.hc.gk]
theorem HI.Cu (H:HI gh h) {v a b c:Int} (hl:aD h.g v=true) (e:jv h v a b c≠0):gF h v a b c=h:=by
 unfold gF
 by_cases hp:kE h v a b c=0
 ·rw[if_neg (fun e=>e hp),if_neg e]
  exact(H.EP hl hp).2 e
 ·exact if_pos hp
theorem Mo {v a b c:Int} (e:jv h v a b c=0):kE h v a b c=0:=by
 unfold jv at e
 unfold kE
 split at e
 ·exact absurd e (by decide)
 rename_i c1
 rw[if_neg c1]
 split at e
 ·exact absurd e (by decide)
 rename_i c2
 rw[if_neg c2]
 split at e
 ·exact absurd e (by decide)
 rename_i c3
 rw[if_neg c3]
 split at e
 ·exact absurd e (by decide)
 rename_i c4
 rw[if_neg c4]
 split at e
 ·exact absurd e (by decide)
 rename_i c5
 rw[if_neg c5]
 split at e
 ·exact absurd e (by decide)
 rename_i c6
 rw[if_neg c6]
 split at e
 ·rename_i c7;exact absurd e c7
 rename_i c7
 exact Classical.byContradiction c7
theorem HI.Cv (H:HI gh h) {v a b c:Int} (hl:aD h.g v=true) (e:jv h v a b c=0):gF h v a b c=fk h v a b c/\ ∃fX,HI fX (fk h v a b c)/\tY h (fk h v a b c) (fun i q=>i=v.toNat/\q=b) (-1)/\(dm h v.toNat b).2.2.1=4/\dm (fk h v a b c) v.toNat b=((iy h a).1,qp c,0,())/\sU gh fX h.s (fk h v a b c).s:=by
 have hp:=Mo e
 refine⟨?_,(H.EP hl hp).1 e⟩
 unfold gF
 rw[if_neg (fun e=>e hp),if_pos e]
theorem HI.take (H:HI gh h) {v:Int} (hl:aD h.g v=true) (a b c:Int): ∃fX,HI fX (gF h v a b c):=by
 by_cases e:jv h v a b c=0
 ·obtain⟨h1,g',H', _⟩:=H.Cv hl e
  rw[h1];exact⟨g',H'⟩
 ·rw[H.Cu hl e];exact⟨gh,H⟩
theorem HI.zC (H:HI gh h) {v:Int} (hl:aD h.g v=true) {a:Int} (e:kU h v a=0): ∃fX,HI fX (dU h v a)/\tY h (dU h v a) (fun i q=>i=v.toNat/\q=a) (-1)/\dm (dU h v a) v.toNat a=(0,0,4,())/\sU gh fX h.s (dU h v a).s:=by
 obtain⟨x,hx,sS,hv, _⟩:=bG hl
 unfold kU at e
 unfold dU
 split at e
 ·exact absurd e (by decide)
 rename_i c1
 rw[if_neg c1]
 split at e
 ·rename_i c2
  rw[if_pos c2]
  have ht:=(qW hl hx).1 c2
  obtain⟨m,rfl⟩: ∃m:Nat,v=(m:Int):=⟨v.toNat,hv.symm⟩
  obtain⟨g',H', _,E,hp⟩:=H.B_ (x:=x) hx ht
  exact⟨g',H',E,hp⟩
 ·exact absurd e (by decide)
theorem zF {v a:Int} (e:kU h v a≠0):dU h v a=h:=by
 unfold kU at e
 unfold dU
 split
 ·rfl
 rename_i c1
 rw[if_neg c1] at e
 split
 ·rename_i c2
  rw[if_pos c2] at e;exact absurd rfl e
 ·rfl
theorem HI.back (H:HI gh h) {v:Int} (hl:aD h.g v=true) (a:Int): ∃fX,HI fX (dU h v a):=by
 by_cases e:kU h v a=0
 ·obtain⟨g',H', _⟩:=H.zC hl e
  exact⟨g',H'⟩
 ·rw[zF e];exact⟨gh,H⟩
theorem HI.eR {v:Nat}: ∀(n:Nat) {gh:Gh} {h:HS},HI gh h->(∃x,h.g v=some x)->(fW h v).length=n->
 ∃fX,HI fX (eR (v:Int) n h)/\(∃x,(eR (v:Int) n h).g v=some x)/\fW (eR (v:Int) n h) v=[]/\(∀i,i≠v->(eR (v:Int) n h).g i=h.g i)/\(∀m o,Ik (eR (v:Int) n h).s.2 m o<->Ik h.s.2 m o)/\tY h (eR (v:Int) n h) (fun i _=>i=v) (-1)/\sU gh fX h.s (eR (v:Int) n h).s
 |0,gh,h,H,hx,hl=>⟨gh,H,hx,List.length_eq_zero_iff.1 hl,fun _ _=>rfl,fun _ _=>Iff.rfl,.refl _ _ _,sU.refl _ _⟩
 |n+1,gh,h,H,⟨x,hx⟩,hl=>by
  have iK:rS h (v:Int)=x.tk:=by rw[PF];exact bX hx
  have HU:x.tk.length=n+1:=by rw[<-bX hx];exact hl
  have hne:x.tk.map (·.1)≠[]:=fun e=>by
   have:=congrArg List.length e
   rw[List.length_map,HU] at this
   simp at this
  have hmin:=Bf hne (fun y hy=>by
   obtain⟨t,ht,rfl⟩:=List.mem_map.1 hy
   have Pq:t∈fW h v:=by rw[bX hx];exact ht
   have:=H.hc.dom (H.hc.uJ (a:=t.2.1) (f:=t.2.2) (H.hc.Cc Pq)).1
   omega)
  obtain⟨p,hp⟩: ∃p,p=wR (x.tk.map (·.1)):=⟨_,rfl⟩
  rw[<-hp] at hmin
  obtain⟨t,ht,Wf⟩:=List.mem_map.1 hmin
  have jQ:=H.hc.nd v
  rw[bX hx] at jQ
  have sL:a9 x.tk p=some t.2:=(iD (a:=t.2.1) (b:=t.2.2) jQ).2 (by rw[<-Wf];exact ht)
  have hX:H_ h (v:Int) p=t.2:=by
   unfold H_
   show(match h.g v with|some x=>(a9 x.tk p).getD (0,0)|none=>(0,0))= _
   rw[hx];dsimp only;rw[sL];rfl
  have MO:AA (v:Int) h=cM h (v:Int) p t.2.1 t.2.2:=by
   unfold AA
   rw[iK, <-hp,hX]
  obtain⟨Qt,H1,Wt,PW, _,Pp⟩:=H.B_ (x:=x) hx sL
  have hx1:(cM h (v:Int) p t.2.1 t.2.2).g v=some {x with tk:=x.tk.filter fun t=> !(t.1==p)}:=by
   show aS h.g v (match h.g v with|some x=> _|none=>none) v= _
   rw[hx,eJ]
  have hlen:(fW (cM h (v:Int) p t.2.1 t.2.2) v).length=n:=by
   rw[bX hx1]
   have:=(yw jQ sL).length_eq
   rw[List.length_cons] at this
   show(x.tk.filter fun t=> !(t.1==p)).length=n
   omega
  obtain⟨g2,h1,h2,h3,h4,h5,h6,h7⟩:=HI.eR n H1 ⟨_,hx1⟩ hlen
  have e:_root_.Go.Proofs.YtdnoecpjcoibmaaGreat.eR (v:Int) (n+1) h=_root_.Go.Proofs.YtdnoecpjcoibmaaGreat.eR (v:Int) n (cM h (v:Int) p t.2.1 t.2.2):=by rw[<-MO];rfl
  rw[e]
  refine⟨g2,h1,h2,h3,fun i hi=>?_,fun m o=>(h5 m o).trans (Wt m o),tY.trans (PW.mono fun c=>c.1) h6,Pp.trans h7⟩
  rw[h4 i hi]
  show aS h.g v _ i=h.g i
  unfold aS
  rw[if_neg hi]
end
end Go.Proofs.YtdnoecpjcoibmaaGreat
namespace Go.Proofs.YtdnoecpjcoibmaaGreat
set_option maxRecDepth 100000
open Go.RX D
section
variable {gh fX:Gh} {h:HS}
theorem Hy {v:Int} {x:GV} (hl:aD h.g v=true) (hx:h.g v.toNat=some x) (p:Int):cL h.g h.s v p=aV h.s x.root false p:=by
 unfold cL;rw[if_pos hl,hx]
theorem HI.word (H:HI gh h) {v:Int} (hl:aD h.g v=true) {a t:Int} (ha:0<=a) (ht:0<=t/\t<=7):
 (a<1048576/\(cL h.g h.s v (a / 16)).2.2.1=0/\gT h v a t=(16*(cL h.g h.s v (a / 16)).1+a % 16,if dK true (cL h.g h.s v (a / 16)).2.1 false (cL h.g h.s v (a / 16)).1 t=true then 0 else 7)/\
  ∃n:Nat,(cL h.g h.s v (a / 16)).1=(n:Int)/\n<h.s.2.length/\kI h v.toNat (a / 16)=some (n:Int))\/
 ((a>=1048576/\(gT h v a t).2=2)\/(a<1048576/\cL h.g h.s v (a / 16)=(0,0,4,())/\(gT h v a t).2=4)):=by
 obtain⟨x,hx,sS,hv,uo,tX⟩:=bG hl
 rw[Hy hl hx]
 unfold gT
 by_cases Pm:a>=1048576
 ·rw[if_pos Pm];exact .inr (.inl ⟨Pm,rfl⟩)
 rw[if_neg Pm,sS]
 have u6:=H.root hx
 have hp:0<=a / 16/\a / 16<65536:=by omega
 have hw:=H.inv.R8 H.nl u6 hp ht
 by_cases e:(aV h.s x.root false (a / 16)).2.2.1=0
 ·rw[if_pos e] at hw
  have hfr:kI h v.toNat (a / 16)=some (aV h.s x.root false (a / 16)).1:=by rw[cw hx,if_pos e]
  obtain⟨n,d,hfn,hd, _⟩:=H.Qs hfr
  have qn:n<h.s.2.length:=(List.getElem?_eq_some_iff.1 hd).1
  have hle:=H.inv.le
  refine .inl ⟨by omega,e,?_,n,hfn,qn,by rw[hfr,hfn]⟩
  rw[hw]
  dsimp only
  rw[hfn,eA (by omega) (by omega),ar (by omega) (by omega)]
 ·rw[if_neg e] at hw
  refine .inr (.inr ⟨by omega,(Inv.R7 _ _ hp).resolve_left e,hw⟩)
theorem HI.Bg (H:HI gh h) {n:Nat} {d:DT} (hd:h.s.2[n]? =some d) (d4:d.1=4) {o:Int} (ho:0<=o/\o<16) (b:Int):HI gh (bh h (cH h.s.1 (16*(n:Int)+o) b,h.s.2))/\tY h (bh h (cH h.s.1 (16*(n:Int)+o) b,h.s.2)) (fun _ _=>False) (n:Int):=by
 have B:Inv.fe gh h.s (cH h.s.1 (16*(n:Int)+o) b,h.s.2):=by
  refine gJ H.inv ⟨cu _ _ _,rfl⟩ (fun q hq=>⟨n,d,hd,by rw[d4];decide,?_⟩) fun{i d d'} h1 h2=>?_
  ·refine Classical.byContradiction fun hc=>hq ?_
   show cZ (cH h.s.1 (16*(n:Int)+o) b) q= _
   rw[mw (by omega)]
  ·rw[h1] at h2;cases h2;exact .inl rfl
 refine⟨H.side B H.hc,H.EI B (h':=bh h (cH h.s.1 (16*(n:Int)+o) b,h.s.2)) rfl rfl _,fun{m d d'} _ _ _ _ hm k k0 k1=>?_,.refl rfl⟩
 show cZ (cH h.s.1 (16*(n:Int)+o) b) _= _
 exact mw (by omega)
theorem HI.store (H:HI gh h) {v:Int} (hl:aD h.g v=true) {a:Int} (ha:0<=a) (b:Int):HI gh (dS h v a b)/\Ag h (dS h v a b) (fun _ _=>False):=by
 unfold dS
 by_cases e:(gT h v a 2).2≠0
 ·rw[if_pos e];exact⟨H,Ag.refl _ _⟩
 rw[if_neg e]
 have e:(gT h v a 2).2=0:=Classical.byContradiction e
 rcases H.word hl ha (t:=2) (by decide) with ⟨_, _,hw,n,hn,qn,hfr⟩|⟨_,h2⟩|⟨_, _,h2⟩
 ·rw[hw]
  dsimp only
  rw[hn]
  obtain⟨m,d,hmn,hd,d4, _⟩:=H.Qs hfr
  have:n=m:=Int.ofNat.inj hmn
  subst this
  obtain⟨S1,S2⟩:=H.Bg hd d4 (o:=a % 16) (by omega) b
  exact⟨S1,S2.pg⟩
 ·rw[h2] at e;exact absurd e (by decide)
 ·rw[h2] at e;exact absurd e (by decide)
theorem HI.OY (H:HI gh h) {n:Nat} {d:DT} (hd:h.s.2[n]? =some d) (h5:d.1=5):d=(5,d.2.1,0,0,())/\0<=d.2.1/\d.2.1<=16:=by
 obtain⟨_,e1,e2,e3⟩:=H.hc.kd hd
 have e4:=H.hc.refs hd
 have:c_ (fW h) (n:Int)=0:=by
  rcases Nat.eq_zero_or_pos (c_ (fW h) (n:Int)) with e|e
  ·exact e
  ·obtain⟨d',k1,k2⟩:=H.hc.DX e
   rw[hd] at k1;cases k1;omega
 rw[this] at e4
 refine⟨?_,e2,e3⟩
 obtain⟨a,b,c,e,u⟩:=d
 dsimp only at h5 e1 e4
 rw[h5,e1,e4];rfl
theorem HI.PI (H:HI gh h) {n:Nat} {d:DT} (hd:h.s.2[n]? =some d) (e2:d.1=5):iq h.s (n:Int)=(h.s.1,h.s.2.set n zD)/\ja h.s (n:Int)=0/\HI gh (bh h (h.s.1,h.s.2.set n zD))/\Ag h (bh h (h.s.1,h.s.2.set n zD)) (fun _ _=>False):=by
 have hn:n<h.s.2.length:=(List.getElem?_eq_some_iff.1 hd).1
 obtain⟨r1,r2,r3⟩:=H.OY hd e2
 have HW:=hd
 rw[r1] at HW
 have nP:=u7 (G:=aE 0 0) HW (Dt ⟨r2,r3⟩)
 have tU:uI h.s.2 (n:Int)=true:=by
  unfold uI
  simp only[Bool.not_eq_true',decide_eq_false_iff_not]
  simp;omega
 have B:Inv.fe gh h.s (h.s.1,h.s.2.set n zD):=by
  refine gJ H.inv ⟨rfl,by rw[List.length_set]⟩ (fun b hb=>absurd rfl hb) fun{i d0 d'} h1 h2=>?_
  rcases js hd h1 h2 with ⟨_,q1,q2⟩|⟨_,q2⟩
  ·exact .inr ⟨by rw[q1,e2];decide,by rw[q2];decide,fun _=>q2⟩
  ·exact .inl q2
 refine⟨?_,?_,H.side B (H.hc.Cr (fun{m d0} h1 h4=>?_) fun{m d0} h1=>?_),H.EI B (h':=bh h (h.s.1,h.s.2.set n zD)) rfl rfl _⟩
 ·unfold iq
  rw[if_pos ⟨tU,by rw[kF hd];exact e2⟩,nP.1]
 ·unfold ja
  rw[tU,if_neg (by decide),kF hd,if_neg (fun c=>c e2)]
  exact nP.2
 ·show(h.s.2.set n zD)[m]? = _
  rw[List.getElem?_set_ne (fun c=>by subst c;rw[hd] at h1;cases h1;omega)];exact h1
 ·have h1:(h.s.2.set n zD)[m]? =some d0:=h1
  by_cases c:n=m
  ·subst c
   rw[List.getElem?_set_self hn] at h1;cases h1
   exact .inr ⟨.inl rfl,rfl,by decide,by decide⟩
  ·rw[List.getElem?_set_ne c] at h1;exact .inl h1
theorem EQ {s:WD} {f:Int} (hf: ∀(n:Nat) (d:DT),f=(n:Int)->s.2[n]? =some d->d.1≠5):iq s f=s/\ja s f≠0:=by
 by_cases e:uI s.2 f=true
 ·have hr:0<=f/\f<s.2.length:=by
   have e1:=e
   unfold uI at e1
   simp only[Bool.not_eq_true',decide_eq_false_iff_not] at e1
   simp at e1;omega
  have hd:s.2[f.toNat]? =some s.2[f.toNat]:=List.getElem?_eq_getElem (by omega)
  have h5:=hf f.toNat _ (by omega) hd
  have hv:(oJ s.2 f).1≠5:=by
   have:=kF hd
   rw[show((f.toNat:Nat):Int)=f by omega] at this
   rw[this];exact h5
  unfold iq ja
  rw[if_neg (fun c=>hv c.2),e,if_neg (by decide),if_pos hv]
  exact⟨rfl,by decide⟩
 ·unfold iq ja
  have e:uI s.2 f=false:=by simpa using e
  rw[e,if_neg (by simp),if_pos rfl]
  exact⟨rfl,by decide⟩
theorem HI.free (H:HI gh h) (f:Int):HI gh (bh h (iq h.s f))/\(iq h.s f=h.s\/ ∃(n:Nat) (d:DT),f=(n:Int)/\h.s.2[n]? =some d/\d.1=5/\iq h.s f=(h.s.1,h.s.2.set n zD)):=by
 by_cases e: ∃(n:Nat) (d:DT),f=(n:Int)/\h.s.2[n]? =some d/\d.1=5
 ·obtain⟨n,d,rfl,h1,h2⟩:=e
  obtain⟨e1, _,e3, _⟩:=H.PI h1 h2
  rw[e1]
  exact⟨e3,.inr ⟨n,d,rfl,h1,h2,rfl⟩⟩
 ·obtain⟨e1, _⟩:=EQ (s:=h.s) (f:=f) fun n d h1 h2 h3=>e ⟨n,d,h1,h2,h3⟩
  rw[e1]
  exact⟨H,.inl rfl⟩
theorem HI.DY (H:HI gh h): ∀n,HI gh (bh h (bC h.s n).1)
 |0=>H
 |n+1=>((HI.DY H n).free (n:Int)).1
theorem HI.JR (H:HI gh h): ∃fX,HI fX (gU h)/\tY h (gU h) (fun _ q=> ¬ (0<=q/\q<65536)) (-1)/\sU gh fX h.s (gU h).s:=by
 unfold gU
 cases hv:kV h.g with
 |none=>exact⟨gh,H,.refl _ _ _,sU.refl _ _⟩
 |some v=>
  dsimp only
  by_cases e:pq h.s (v:Int)=0
  case neg=>rw[if_neg e];exact⟨gh,H,.refl _ _ _,sU.refl _ _⟩
  rw[if_pos e]
  obtain⟨Qa,Vm, _⟩:=wk.1 hv
  have hno: ∀f,gh f≠some ((v:Int),3,0):=fun f hf=>by
   obtain⟨i,x,h1,h2⟩:=H.own hf
   have:i=v:=Int.ofNat.inj h1
   subst this
   rw[Vm] at h2;cases h2
  obtain⟨_,b1,b2,b3,b4,b5,b6,b7,b8,I'⟩:=H.inv.born (o:=(v:Int)) (by omega) hno (sI e)
  have hw: ∀{f o y k:Int} {l:Nat},gh f=some (o,l,y)->0<=k->k<16->cZ (gM h.s (v:Int) fun _=>0).1 (16*f+k)=cZ h.s.1 (16*f+k):=fun{f o y k l} hf k0 k1=>by
   have hne:f≠dL h.s (v:Int):=fun c=>by rw[c,b1] at hf;cases hf
   exact b6 _ (by omega)
  have hz: ∀k,0<=k->k<16->aC (gM h.s (v:Int) fun _=>0).1 (16*dL h.s (v:Int)+k)=zE:=fun k k0 k1=>TG (b7 k k0 k1)
  generalize (gM h.s (v:Int) fun _=>0)=s' at*
  generalize dL h.s (v:Int)=F at*
  have Na: ∀{f o y k:Int} {l:Nat},gh f=some (o,l,y)->0<=k->k<16->aC s'.1 (16*f+k)=aC h.s.1 (16*f+k):=fun hf k0 k1=>by unfold aC;rw[hw hf k0 k1]
  have Vn: ∀{f o y:Int} {l:Nat},gh f=some (o,l,y)->jS gh F (some ((v:Int),3,0)) f=some (o,l,y):=fun{f o y l} hf=>by
   rw[aN (fun c=>by rw[c,b1] at hf;cases hf)];exact hf
  have hg': ∀{i:Nat} {x:GV},aS h.g v (some ⟨F,[]⟩) i=some x->(i=v/\x=⟨F,[]⟩)\/(i≠v/\h.g i=some x):=fun{i x} hx=>by
   unfold aS at hx
   by_cases c:i=v
   ·rw[if_pos c] at hx;cases hx;exact .inl ⟨c,rfl⟩
   ·rw[if_neg c] at hx;exact .inr ⟨c,hx⟩
  have ZX:F.toNat<h.s.2.length:=by omega
  have Qi: ∀{i:Nat} {p:Int},0<=p/\p<65536->dm {h with s:=s',g:=aS h.g v (some ⟨F,[]⟩)} i p=dm h i p:=fun{i p} hp=>by
   by_cases c:i=v
   ·subst c
    rw[eC Vm,bH (h:={h with s:=s',g:=aS h.g i (some ⟨F,[]⟩)}) (x:=⟨F,[]⟩) (eJ _ _ _)]
    show aV s' F false p= _
    have Yj:=hz (px 3 p % 16) (eo p 3).1 (eo p 3).2
    have he:c9 (jS gh F (some ((i:Int),3,0))) s' (i:Int) p F 3:=⟨by rw[S_ hp];exact a6 _ _ _,by rw[Yj];exact Fi⟩
    rw[I'.fB (a6 _ _ _) hp he,Yj,B9 _ _ rfl]
   ·cases hx:h.g i with
    |none=>
     rw[eC hx]
     exact eC (h:={h with s:=s',g:=aS h.g v (some ⟨F,[]⟩)}) (show aS h.g v (some ⟨F,[]⟩) i=none by unfold aS;rw[if_neg c];exact hx) p
    |some x=>
     rw[bH hx,bH (h:={h with s:=s',g:=aS h.g v (some ⟨F,[]⟩)}) (x:=x) (show aS h.g v (some ⟨F,[]⟩) i=some x by unfold aS;rw[if_neg c];exact hx)]
     show aV s' x.root false p= _
     obtain⟨f,j, _,he⟩:=H.inv.jH (H.root hx) hp
     have e2:=Na he.1 (eo p j).1 (eo p j).2
     have he':c9 (jS gh F (some ((v:Int),3,0))) s' (i:Int) p f j:=⟨Vn he.1,by rw[e2];exact he.2⟩
     rw[H.inv.fB (H.root hx) hp he,I'.fB (Vn (H.root hx)) hp he',e2]
  have hout: ∀(h:HS) {i:Nat} {p:Int},¬ (0<=p/\p<65536)->(dm h i p).2.2.1≠0:=fun h {i p} hp=>by
   unfold dm
   cases h.g i with
   |none=>exact(show ¬ (4:Int)=0 by decide)
   |some x=>dsimp only;rw[Inv.qM hp];decide
  have hfr:kI {h with s:=s',g:=aS h.g v (some ⟨F,[]⟩)}=kI h:=by
   funext i p
   rw[nk,nk]
   by_cases hp:0<=p/\p<65536
   ·rw[Qi hp]
   ·rw[if_neg (hout _ hp),if_neg (hout _ hp)]
  have iK:fW {h with s:=s',g:=aS h.g v (some ⟨F,[]⟩)}=fW h:=by
   funext i
   unfold fW
   show(match aS h.g v (some ⟨F,[]⟩) i with|some x=>x.tk|none=>[])= _
   unfold aS
   by_cases c:i=v
   ·rw[if_pos c,c,Vm]
   ·rw[if_neg c]<;>rfl
  have hds:h.s.2[F.toNat]? =some zD:=b5
  have pz:tY h {h with s:=s',g:=aS h.g v (some ⟨F,[]⟩)} (fun _ q=> ¬ (0<=q/\q<65536)) (-1):=by
   refine⟨⟨fun hq=>Qi (Classical.byContradiction hq)⟩,fun{m d d'} h1 h4 _ _ _ k k0 k1=>?_,?_⟩
   ·have hmF:m≠F.toNat:=fun c=>by rw[c,hds] at h1;cases h1;exact absurd h4 (by decide)
    exact b6 _ (by omega)
   ·show KD h.s s'
    have:=KD.set (s:=h.s) (W:=s'.1) (d1:=((3:Int),(v:Int),(0:Int),(0:Int),())) hds (fun c=>absurd c (by decide)) (fun c=>absurd c (by decide))
    rw[<-b4] at this
    exact this
  suffices hh:HI (jS gh F (some ((v:Int),3,0))) {h with s:=s',g:=aS h.g v (some ⟨F,[]⟩)} from⟨_,hh,pz,fun f w hf=> .inl (by
   obtain⟨o,l,x⟩:=w
   exact Vn hf),fun f c=>c.kd pz.kd fun k k0 k1=>by
   obtain⟨z0,d,z1,z2, _⟩:=c
   have:f.toNat≠F.toNat:=fun e=>by rw[e,hds] at z1;cases z1;exact absurd z2 (by decide)
   exact b6 _ (by omega)⟩
  refine⟨I',fun f o x hf=>?_,fun f o l x k hf k0 k1 hp ht=>?_,?_,fun{i x} hx=>?_,fun{i x} hx=>?_,fun{f o y} hf=>?_,?_⟩
  ·by_cases c:f=F
   ·subst c;rw[a6] at hf;cases hf;rfl
   ·rw[aN c] at hf;exact H.rt f o x hf
  ·by_cases c:f=F
   ·subst c
    have hp:(aC s'.1 (16*f+k)).1=true:=hp
    rw[hz k k0 k1] at hp;cases hp
   ·rw[aN c] at hf
    have hp:(aC s'.1 (16*f+k)).1=true:=hp
    have ht:dy (aC s'.1 (16*f+k))=false:=ht
    rw[Na hf k0 k1] at hp ht
    exact H.nl hf k0 k1 hp ht
  ·show s'.1.length=16*s'.2.length
   rw[b8,b4,List.length_set];exact H.sz
  ·rcases hg' hx with ⟨c, _⟩|⟨_,c⟩
   ·omega
   ·exact H.dom c
  ·rcases hg' hx with ⟨c,d⟩|⟨_,c⟩
   ·subst c;subst d;exact a6 _ _ _
   ·exact Vn (H.root c)
  ·by_cases c:f=F
   ·subst c
    rw[a6] at hf;cases hf
    exact⟨v, _,rfl,eJ _ _ _⟩
   ·rw[aN c] at hf
    obtain⟨i,x,h1,h2⟩:=H.own hf
    refine⟨i,x,h1,?_⟩
    show aS h.g v _ i=some x
    unfold aS
    rw[if_neg (fun c=>by subst c;rw[Vm] at h2;cases h2)];exact h2
  ·rw[hfr,iK]
   show HC (kI h) (fW h) s'.2 h.gr
   rw[b4]
   refine H.hc.Cr (fun{m d} h1 h4=>?_) fun{m d} h1=>?_
   ·rw[List.getElem?_set_ne (fun c=>by subst c;rw[b5] at h1;cases h1;exact absurd h4 (by decide))];exact h1
   ·by_cases c:F.toNat=m
    ·subst c
     rw[List.getElem?_set_self ZX] at h1;cases h1
     exact .inr ⟨.inr (.inl rfl),rfl,by show 0<=(v:Int);omega,by show(v:Int)<=16;omega⟩
    ·rw[List.getElem?_set_ne c] at h1;exact .inl h1
end
end Go.Proofs.YtdnoecpjcoibmaaGreat
namespace Go.Proofs.YtdnoecpjcoibmaaGreat
set_option maxRecDepth 100000
open Go.RX D
theorem nA {ds:List DT} {v:Int} {i:Nat}:i∈fJ ds v<-> ∃d,ds[i]? =some d/\d.2.1=v:=by
 unfold fJ
 rw[List.mem_filter,List.mem_range]
 constructor
 ·rintro⟨h1,h2⟩
  have hd:ds[i]? =some ds[i]:=List.getElem?_eq_getElem h1
  rw[hd] at h2
  exact⟨_,hd,by simpa using h2⟩
 ·rintro⟨d,h1,h2⟩
  exact⟨(List.getElem?_eq_some_iff.1 h1).1,by rw[h1];simpa using h2⟩
theorem Du (ds:List DT) (v:Int):(fJ ds v).Nodup:=List.Pairwise.filter _ List.nodup_range
theorem vH {v:Int} (hv:1<=v/\v<=16): ∀(l:List Nat) (ds:List DT) (c:Int),l.Nodup->(∀i∈l, ∀d,ds[i]? =some d->d.1=4->d=(4,v,0,0,()))->
 (l.foldl (rU v) (ds,c)).1.length=ds.length/\ ∀n:Nat,((n∈l/\ ∃d,ds[n]? =some d/\d.1=4)->(l.foldl (rU v) (ds,c)).1[n]? =some (5,v,0,0,()))/\(¬ (n∈l/\ ∃d,ds[n]? =some d/\d.1=4)->(l.foldl (rU v) (ds,c)).1[n]? =ds[n]?)
 |[],ds,c, _, _=>⟨rfl,fun n=>⟨fun h=>(by cases h.1),fun _=>rfl⟩⟩
 |i::l,ds,c,jQ,hall=>by
  rw[List.nodup_cons] at jQ
  rw[List.foldl_cons]
  by_cases e:(oJ ds (i:Int)).1=4
  ·rw[show rU v (ds,c) i=(fQ ds (i:Int) (aE 5 v),c+1) from if_pos e]
   have hi:i<ds.length:=by
    refine Classical.byContradiction fun hc=>?_
    unfold oJ at e
    rw[if_pos (.inr (by omega))] at e
    exact absurd e (by decide)
   have hd:ds[i]? =some ds[i]:=List.getElem?_eq_getElem hi
   rw[kF hd] at e
   have ZY:=hall i List.mem_cons_self _ hd e
   rw[ZY] at hd
   rw[(u7 (G:=aE 5 v) hd (yx hv)).1]
   obtain⟨h1,h2⟩:=vH hv l (ds.set i (5,v,0,0,())) (c+1) jQ.2 fun j hj d Yk h4=>by
    have hij:i≠j:=fun e=>jQ.1 (by rw[e];exact hj)
    rw[List.getElem?_set_ne hij] at Yk
    exact hall j (List.mem_cons_of_mem _ hj) d Yk h4
   refine⟨h1.trans (List.length_set ..),fun n=>⟨fun hn=>?_,fun hn=>?_⟩⟩
   ·by_cases en:i=n
    ·subst en
     rw[(h2 i).2 (fun c=>jQ.1 c.1),List.getElem?_set_self hi]
    ·refine(h2 n).1 ⟨?_,?_⟩
     ·rcases List.mem_cons.1 hn.1 with h|h
      ·exact absurd h.symm en
      ·exact h
     ·rw[List.getElem?_set_ne en];exact hn.2
   ·have en:i≠n:=fun en=>by subst en;exact hn ⟨List.mem_cons_self, _,hd,rfl⟩
    rw[(h2 n).2 (fun c=>hn ⟨List.mem_cons_of_mem _ c.1,by rw[List.getElem?_set_ne en] at c;exact c.2⟩),List.getElem?_set_ne en]
  ·rw[show rU v (ds,c) i=(ds,c) from if_neg e]
   obtain⟨h1,h2⟩:=vH hv l ds c jQ.2 fun j hj=>hall j (List.mem_cons_of_mem _ hj)
   refine⟨h1,fun n=>⟨fun hn=>(h2 n).1 ⟨?_,hn.2⟩,fun hn=>(h2 n).2 fun c=>hn ⟨List.mem_cons_of_mem _ c.1,c.2⟩⟩⟩
   rcases List.mem_cons.1 hn.1 with h|h
   ·subst h
    obtain⟨d,k1,k2⟩:=hn.2
    rw[kF k1] at e
    exact absurd k2 e
   ·exact h
theorem zH {s s':WD} (h:s'.1=s.1) (r:Int) (g:Bool) (p:Int):aV s' r g p=aV s r g p:=by
 unfold aV;rw[h]
section
variable {gh:Gh} {h:HS}
theorem HI.gone (H:HI gh h) {v:Nat} {x:GV} (hx:h.g v=some x) (iK:fW h v=[]) (hz: ∀n,Ik h.s.2 n (v:Int)->c_ (fW h) (n:Int)=0): ∃fX,HI fX (jF h (v:Int))/\tY h (jF h (v:Int)) (fun i _=>i=v) (-1)/\(∀(f:Int) (w:Int×Nat×Int),gh f=some w->w.1≠(v:Int)->fX f=some w)/\ ∀f,jB h.s f->jB (jF h (v:Int)).s f:=by
 have hd:=H.dom hx
 have Qa:1<=(v:Int)/\(v:Int)<=16:=by omega
 obtain⟨I1,r1,w1,l1,hD⟩:=H.inv.dropped H.rt (H.root hx)
 have Wp:aT h.g (v:Int)=x.root:=by
  unfold aT
  rw[if_pos (dw.2 ⟨by omega,x,hx⟩)]
  show(match h.g v with|some x=>x.root|none=> -1)= _
  rw[hx]
 have hG:jF h (v:Int)={s:=((bV h.s x.root false).1,(y6 (bV h.s x.root false).2 (v:Int)).1),g:=aS h.g v none,gr:=cn h.gr (v:Int),po:=(Po.bV 4 h.po (v:Int)).2}:=by
  unfold jF
  rw[Wp];rfl
 rw[hG]
 generalize bV h.s x.root false=s1 at*
 have ZZ: ∀{n:Nat} {d:DT},s1.2[n]? =some d->d.1=4->h.s.2[n]? =some d:=fun{n d} h1 h4=>by
  by_cases e: ∃l y,gh (n:Int)=some ((v:Int),l,y)
  ·rw[(hD n).1 e] at h1;cases h1
   exact absurd h4 (show ¬ (5:Int)=4 by decide)
  ·rw[(hD n).2 e] at h1;exact h1
 have Wu: ∀{n:Nat} {d:DT},h.s.2[n]? =some d->d.1=4->s1.2[n]? =some d:=fun{n d} h1 h4=>by
  rw[(hD n).2 (fun⟨l,y,hf⟩=>?_)]
  ·exact h1
  ·have:=(H.inv.kd hf).2.2.1
   rw[show((n:Int)).toNat=n from rfl,h1] at this
   cases this
   exact absurd h4 (show ¬ (3:Int)=4 by decide)
 have hall: ∀i∈fJ s1.2 (v:Int), ∀d,s1.2[i]? =some d->d.1=4->d=(4,(v:Int),0,0,()):=fun i hi d h1 h4=>by
  obtain⟨d',k1,k2⟩:=nA.1 hi
  rw[h1] at k1;cases k1
  have xd:=ZZ h1 h4
  obtain⟨_,e1, _⟩:=H.hc.kd xd
  have e2:=H.hc.refs xd
  rw[hz i ⟨d,xd,h4,k2⟩] at e2
  obtain⟨a,b,c,e,u⟩:=d
  dsimp only at h4 e1 e2 k2
  rw[h4,e1,e2,k2];rfl
 obtain⟨f1,f2⟩:=vH Qa (fJ s1.2 (v:Int)) s1.2 0 (Du _ _) hall
 have Z0:(y6 s1.2 (v:Int)).1=((fJ s1.2 (v:Int)).foldl (rU (v:Int)) (s1.2,0)).1:=rfl
 rw[<-Z0] at f1 f2
 generalize (y6 s1.2 (v:Int)).1=xh at*
 have B:Inv.fe (Fj gh (v:Int)) s1 (s1.1,xh):=by
  refine gJ I1 ⟨rfl,f1⟩ (fun b hb=>absurd rfl hb) fun{n d d'} h1 h2=>?_
  by_cases c:n∈fJ s1.2 (v:Int)/\ ∃d,s1.2[n]? =some d/\d.1=4
  ·have h2:xh[n]? =some d':=h2
   rw[(f2 n).1 c] at h2
   cases h2
   obtain⟨_,d0,e1,e2⟩:=c
   rw[h1] at e1;cases e1
   exact .inr ⟨by rw[e2];decide,(show ¬ (5:Int)=3 by decide),fun c=>absurd c (show ¬ (5:Int)=0 by decide)⟩
  ·have h2:xh[n]? =some d':=h2
   rw[(f2 n).2 c,h1] at h2
   cases h2;exact .inl rfl
 have hg': ∀{i:Nat} {y:GV},aS h.g v none i=some y->i≠v/\h.g i=some y:=fun{i y} hy=>by
  unfold aS at hy
  by_cases c:i=v
  ·rw[if_pos c] at hy;cases hy
  ·rw[if_neg c] at hy;exact⟨c,hy⟩
 have hsome: ∀{i:Nat} {y:GV},i≠v->h.g i=some y->aS h.g v none i=some y:=fun{i y} hi hy=>by
  unfold aS;rw[if_neg hi];exact hy
 have Xm:fW {s:=(s1.1,xh),g:=aS h.g v none,gr:=cn h.gr (v:Int),po:=(Po.bV 4 h.po (v:Int)).2}=fW h:=by
  funext i
  unfold fW
  show(match aS h.g v none i with|some x=>x.tk|none=>[])= _
  unfold aS
  by_cases c:i=v
  ·rw[if_pos c]
   subst c
   exact iK.symm
  ·rw[if_neg c]<;>rfl
 have hfr:kI {s:=(s1.1,xh),g:=aS h.g v none,gr:=cn h.gr (v:Int),po:=(Po.bV 4 h.po (v:Int)).2}=fun i p=>if i=v then none else kI h i p:=by
  funext i p
  by_cases c:i=v
  ·rw[if_pos c]
   exact eH (h:={s:=(s1.1,xh),g:=aS h.g v none,gr:=cn h.gr (v:Int),po:=(Po.bV 4 h.po (v:Int)).2}) (show aS h.g v none i=none by unfold aS;rw[if_pos c]) p
  ·rw[if_neg c]
   cases hi:h.g i with
   |none=>
    rw[eH hi]
    exact eH (h:={s:=(s1.1,xh),g:=aS h.g v none,gr:=cn h.gr (v:Int),po:=(Po.bV 4 h.po (v:Int)).2}) (show aS h.g v none i=none by unfold aS;rw[if_neg c];exact hi) p
   |some z=>
    rw[cw hi,cw (h:={s:=(s1.1,xh),g:=aS h.g v none,gr:=cn h.gr (v:Int),po:=(Po.bV 4 h.po (v:Int)).2}) (hsome c hi)]
    rw[zH (s:=h.s) (s':=(s1.1,xh)) w1]
 have pz:tY h {s:=(s1.1,xh),g:=aS h.g v none,gr:=cn h.gr (v:Int),po:=(Po.bV 4 h.po (v:Int)).2} (fun i _=>i=v) (-1):=by
  refine⟨⟨fun{i q} c=>?_⟩,fun{m d d'} _ _ _ _ _ k _ _=>by show cZ s1.1 _= _;rw[w1],fun{n d} h1 h4=>?_,fun{n d} h1 h5=>?_⟩
  ·cases hi:h.g i with
   |none=>
    rw[eC hi]
    exact eC (h:={s:=(s1.1,xh),g:=aS h.g v none,gr:=cn h.gr (v:Int),po:=(Po.bV 4 h.po (v:Int)).2}) (show aS h.g v none i=none by unfold aS;rw[if_neg c];exact hi) q
   |some z=>
    rw[bH hi,bH (h:={s:=(s1.1,xh),g:=aS h.g v none,gr:=cn h.gr (v:Int),po:=(Po.bV 4 h.po (v:Int)).2}) (hsome c hi)]
    exact zH (s:=h.s) (s':=(s1.1,xh)) w1 _ _ _
  ·have xd:=Wu h1 h4
   show∃d',xh[n]? =some d'/\ _
   by_cases c:n∈fJ s1.2 (v:Int)/\ ∃d,s1.2[n]? =some d/\d.1=4
   ·exact⟨_,(f2 n).1 c,.inr rfl⟩
   ·exact⟨d,by rw[(f2 n).2 c];exact xd,.inl h4⟩
  ·show∃d',xh[n]? =some d'/\ _
   have xd: ∃d',s1.2[n]? =some d'/\d'.1=5:=by
    by_cases e: ∃l y,gh (n:Int)=some ((v:Int),l,y)
    ·exact⟨_,(hD n).1 e,rfl⟩
    ·exact⟨d,by rw[(hD n).2 e];exact h1,h5⟩
   obtain⟨d',e1,e2⟩:=xd
   by_cases c:n∈fJ s1.2 (v:Int)/\ ∃d,s1.2[n]? =some d/\d.1=4
   ·exact⟨_,(f2 n).1 c,rfl⟩
   ·exact⟨d',by rw[(f2 n).2 c];exact e1,e2⟩
 suffices hh:HI (Fj gh (v:Int)) {s:=(s1.1,xh),g:=aS h.g v none,gr:=cn h.gr (v:Int),po:=(Po.bV 4 h.po (v:Int)).2} from⟨_,hh,pz,fun f w hf hn=>cG.2 ⟨hf,hn⟩,fun f c=>c.kd pz.kd fun k _ _=>by show cZ s1.1 _= _;rw[w1]⟩
 refine⟨I1.beside B,r1,Inv.lC B (fun f o l y k hf k0 k1 hp ht=>?_),?_,fun{i y} hy=>H.dom (hg' hy).2,fun{i y} hy=>?_,fun{f o y} hf=>?_,?_⟩
 ·rw[w1] at hp ht
  exact H.nl (cG.1 hf).1 k0 k1 hp ht
 ·show s1.1.length=16*xh.length
  rw[w1,f1,l1];exact H.sz
 ·obtain⟨h1,h2⟩:=hg' hy
  exact cG.2 ⟨H.root h2,fun c=>h1 (Int.ofNat.inj c)⟩
 ·obtain⟨h1,h2⟩:=cG.1 hf
  obtain⟨i,y',e1,e2⟩:=H.own h1
  exact⟨i,y',e1,hsome (fun c=>h2 (by show o= _;rw[<-e1,c])) e2⟩
 ·rw[hfr,Xm]
  refine H.hc.gone ⟨by omega,by omega⟩ iK (fun{n d} h1 h4 ho=>?_) (fun{n d} h1 h4 ho=>?_) (fun{n d} h1=>?_) (H.hc.gk.drop _)
  ·rw[H.hc.refs h1,hz n ⟨d,h1,h4,ho⟩];rfl
  ·show xh[n]? =some d
   rw[(f2 n).2 (fun c=>?_)]
   ·exact Wu h1 h4
   ·obtain⟨d',k1,k2⟩:=nA.1 c.1
    rw[Wu h1 h4] at k1;cases k1
    exact ho k2
  ·have h1:xh[n]? =some d:=h1
   by_cases c:n∈fJ s1.2 (v:Int)/\ ∃d,s1.2[n]? =some d/\d.1=4
   ·rw[(f2 n).1 c] at h1;cases h1
    exact .inr ⟨.inr (.inr rfl),rfl,by show 0<=(v:Int);omega,Qa.2⟩
   ·rw[(f2 n).2 c] at h1
    by_cases e: ∃l y,gh (n:Int)=some ((v:Int),l,y)
    ·rw[(hD n).1 e] at h1;cases h1
     exact .inr ⟨.inr (.inr rfl),rfl,by show 0<=(v:Int);omega,Qa.2⟩
    ·have xd:=h1
     rw[(hD n).2 e] at h1
     exact .inl ⟨h1,fun k=>c ⟨nA.2 ⟨d,xd,k.2⟩,d,xd,k.1⟩⟩
theorem HI.zI (H:HI gh h) (a:Int): ∃fX,HI fX (mT h a)/\tY h (mT h a) (fun i _=>i=a.toNat) (-1)/\(∀(f:Int) (w:Int×Nat×Int),gh f=some w->w.1≠a->fX f=some w\/jB (mT h a).s f)/\ ∀f,jB h.s f->jB (mT h a).s f:=by
 unfold mT
 by_cases hl:aD h.g a=true
 case neg=>rw[if_neg hl];exact⟨gh,H,.refl _ _ _,fun _ _ h _=> .inl h,fun _ h=>h⟩
 rw[if_pos hl]
 by_cases hb:mA h.s.2 a=true
 case pos=>rw[if_pos hb];exact⟨gh,H,.refl _ _ _,fun _ _ h _=> .inl h,fun _ h=>h⟩
 rw[if_neg hb]
 obtain⟨x,hx,sS,hv,uo,tX⟩:=bG hl
 obtain⟨v,rfl⟩: ∃v:Nat,a=(v:Int):=⟨a.toNat,hv.symm⟩
 have hx:h.g v=some x:=hx
 obtain⟨g1,H1,⟨x1,hx1⟩,Yl,Z1,Wt,PW,Pp⟩:=HI.eR (rS h (v:Int)).length H ⟨x,hx⟩ rfl
 suffices hz: ∀n,Ik (_root_.Go.Proofs.YtdnoecpjcoibmaaGreat.eR (v:Int) (rS h (v:Int)).length h).s.2 n (v:Int)->c_ (fW (_root_.Go.Proofs.YtdnoecpjcoibmaaGreat.eR (v:Int) (rS h (v:Int)).length h)) (n:Int)=0 by
  obtain⟨g2,H2,E2,k1,k2⟩:=H1.gone hx1 Yl hz
  exact⟨g2,H2,PW.trans E2,fun f w hf hn=>(Pp.1 f w hf).imp (fun e=>k1 f w e hn) (k2 f),fun f c=>k2 f (Pp.2 f c)⟩
 intro n hn
 rcases Nat.eq_zero_or_pos (c_ (fW (_root_.Go.Proofs.YtdnoecpjcoibmaaGreat.eR (v:Int) (rS h (v:Int)).length h)) (n:Int)) with e|e
 ·exact e
 ·obtain⟨i,t,hi,ht,hq⟩:=vG e
  have hiv:i≠v:=fun c=>by rw[c,Yl] at ht;cases ht
  have ht':t∈fW h i:=by
   unfold fW at ht ⊢
   rw[Z1 i hiv] at ht;exact ht
  obtain⟨d,k1,k2,k3⟩:=(Wt n (v:Int)).1 hn
  have hp:=l5 (q:=fun t=>t.2.2==(n:Int)) hi ht' hq
  have hr:=H.hc.refs k1
  refine absurd ?_ hb
  unfold mA
  refine List.any_eq_true.2 ⟨n,nA.2 ⟨d,k1,k3⟩,?_⟩
  rw[kF k1]
  have:d.2.2.1>0:=by rw[hr];unfold c_;omega
  simpa using this
end
end Go.Proofs.YtdnoecpjcoibmaaGreat
namespace Go.Proofs.YtdnoecpjcoibmaaGreat
set_option maxRecDepth 100000
open Go.RX D
theorem wq (o pg:Int): ∀(n:Nat) (x:WD×PT),(qF o pg n x).1.1.length=x.1.1.length
 |0,x=>rfl
 |n+1,x=>by
  rw[qF,wq o pg n]
  exact uz _ _ _ _ _
theorem Hz (s:WD) (o r pg lv:Int) (e:ET):(qv s o r pg lv e).1.length=s.1.length:=by
 unfold qv;split
 ·show(cH _ _ _).length= _
  rw[cu,wq]
 ·rfl
theorem ow (s:WD) (o r:Int) (gone:Bool) (pg f rt:Int):(iP s o r gone pg f rt).1.length=s.1.length:=by
 unfold iP;split
 ·rfl
 ·split
  ·exact Hz _ _ _ _ _ _
  ·rfl
theorem HA (s:WD) (o r:Int) (gone:Bool) (pg rt:Int):(pJ s o r gone pg rt).1.length=s.1.length:=by
 unfold pJ
 split
 ·rfl
 split
 ·split
  ·split
   ·rfl
   ·split
    ·show(cH _ _ _).length= _
     rw[cu,qX]
    ·exact qX _ _ _ _
  ·rfl
 ·rfl
theorem Mp (s:WD) (r:Int) (gone:Bool):(bV s r gone).1=s.1:=by
 unfold bV;split<;>rfl
theorem yA (v:Int): ∀(n:Nat) (h:HS),(eR v n h).s.1.length=h.s.1.length
 |0,h=>rfl
 |n+1,h=>by
  rw[eR,yA v n]
  exact qY _ _ _ _ _
theorem OZ (h:HS) (v k a b c:Int):(run h v k a b c).1.s.1.length=h.s.1.length:=by
 unfold run
 split
 ·show(gU h).s.1.length= _
  unfold gU
  split
  ·rfl
  ·split
   ·exact EE _ _ _
   ·rfl
 ·show(mT h a).s.1.length= _
  unfold mT
  split
  ·split
   ·rfl
   ·show(bV _ _ _).1.length= _
    rw[Mp,yA]
  ·rfl
 ·show(gQ h v a b).s.1.length= _
  unfold gQ
  split
  ·rfl
  split
  ·rfl
  split
  ·rfl
  split
  ·exact ow _ _ _ _ _ _ _
  ·exact(fV _ _ _ _).trans (ow _ _ _ _ _ _ _)
 ·show(mM h v a).s.1.length= _
  unfold mM
  split
  ·exact qY _ _ _ _ _
  ·rfl
 ·show(ir h v a b).s.1.length= _
  unfold ir
  split
  ·rfl
  split
  ·rfl
  split
  ·rfl
  ·exact HA _ _ _ _ _ _
 ·rfl
 ·show(dS h v a b).s.1.length= _
  unfold dS
  split
  ·rfl
  ·exact cu _ _ _
 ·show(fc h v a b c).s.1.length= _
  unfold fc;split<;>rfl
 ·show(gF h v a b c).s.1.length= _
  unfold gF
  split
  ·rfl
  split
  ·exact ow _ _ _ _ _ _ _
  ·exact ow _ _ _ _ _ _ _
 ·show(dU h v a).s.1.length= _
  unfold dU
  split
  ·rfl
  split
  ·exact qY _ _ _ _ _
  ·rfl
 ·show(fh h v a).s.1.length= _
  unfold fh;split<;>rfl
 ·show(jD h v a).s.1.length= _
  unfold jD;split<;>rfl
 ·show(jE h v a b).s.1.length= _
  unfold jE
  split
  ·rfl
  split<;>rfl
 ·show(jC h v a).s.1.length= _
  unfold jC;split<;>rfl
 ·rfl
 ·show(gC h v a).s.1.length= _
  unfold gC;split<;>rfl
 ·show(bC h.s _).1.1.length= _
  rw[(lA h.s _).1]
theorem Cw (h:HS) (v k a b c:Int):(g_ h v k a b c).s.1.length=h.s.1.length:=by
 unfold g_;split
 ·exact OZ _ _ _ _ _ _
 ·rfl
theorem zf {h:HS} {v k a b c:Int} (hp:iu h v k a b c=0):(1<=k/\k<=17)/\(qu k=false->aD h.g v=true)/\iB k a b c=true:=by
 unfold iu at hp
 split at hp
 ·exact absurd hp (by decide)
 rename_i d1
 split at hp
 ·exact absurd hp (by decide)
 rename_i dc
 split at hp
 ·exact absurd hp (by decide)
 rename_i d
 have dr:iB k a b c=true:=by
  cases e:iB k a b c with
  |true=>rfl
  |false=>rw[e] at d1;simp at d1
 have d0: ¬ v<0:=fun e=>d1 (by simp[e])
 refine⟨?_,fun e=>?_,dr⟩
 ·unfold iB at dr
  rw[Bool.and_eq_true,decide_eq_true_eq] at dr
  have d1:=dr.1
  unfold i_ at d1
  by_cases e:1<=k/\k<=17
  ·exact e
  ·rw[if_neg e] at d1;exact absurd d1 (by decide)
 ·rw[e] at dc
  have Pf:v≠0:=by
   intro e0;rw[e0] at dc;exact absurd rfl dc
  have:decide (v>0)=true:=decide_eq_true (by omega)
  rw[this,Bool.true_and] at d
  simpa using d
section
variable {gh:Gh} {h:HS}
theorem HI.run (H:HI gh h) {v k a b c:Int} (hk:1<=k/\k<=17) (hl:qu k=false->aD h.g v=true) (ha:0<=a): ∃fX,HI fX (run h v k a b c).1:=by
 have:k=1\/k=2\/k=3\/k=4\/k=5\/k=6\/k=7\/k=8\/k=9\/k=10\/k=11\/k=12\/k=13\/k=14\/k=15\/k=16\/k=17:=by omega
 rcases this with rfl|rfl|rfl|rfl|rfl|rfl|rfl|rfl|rfl|rfl|rfl|rfl|rfl|rfl|rfl|rfl|rfl
 ·obtain⟨g',H', _⟩:=H.JR
  exact⟨g',H'⟩
 ·obtain⟨g',H', _⟩:=H.zI a
  exact⟨g',H'⟩
 ·exact H.Cs (hl rfl) a b
 ·exact H.zA (hl rfl) a
 ·exact H.qJ (hl rfl) a b
 ·exact⟨gh,H⟩
 ·exact⟨gh,(H.store (hl rfl) ha b).1⟩
 ·exact⟨gh,H.offer v a b c⟩
 ·exact H.take (hl rfl) a b c
 ·exact H.back (hl rfl) a
 ·exact⟨gh,H.R9 v a⟩
 ·refine⟨gh,?_⟩
  show HI gh (jD h v a)
  unfold jD;split
  ·exact H.po _
  ·exact H
 ·refine⟨gh,?_⟩
  show HI gh (jE h v a b)
  unfold jE;split
  ·exact H
  split
  ·exact H.po _
  ·exact H
 ·refine⟨gh,?_⟩
  show HI gh (jC h v a)
  unfold jC;split
  ·exact H
  ·exact H.po _
 ·exact⟨gh,H.po _⟩
 ·refine⟨gh,?_⟩
  show HI gh (gC h v a)
  unfold gC;split
  ·exact H
  ·exact H.po _
 ·exact⟨gh,H.DY _⟩
theorem HI.step (H:HI gh h) (v k:Int) {a:Int} (b c:Int) (ha:0<=a): ∃fX,HI fX (g_ h v k a b c):=by
 unfold g_
 by_cases hp:iu h v k a b c=0
 ·rw[if_pos hp]
  obtain⟨h1,h2, _⟩:=zf hp
  exact H.run h1 h2 ha
 ·rw[if_neg hp];exact⟨gh,H⟩
end
theorem HI.new {n:Nat} (hn:4<=n/\n<=4096):HI X7 (h0 n) where
 inv:=GY (Nat.le_refl _) hn.2
 rt:=fun f o x h=>(by cases h)
 nl:=fun f o l x i h=>(by cases h)
 sz:=by
  show(List.replicate (16*n) (0:Int)).length=16*(List.replicate n zD).length
  rw[List.length_replicate,List.length_replicate]
 dom:=fun h=>(by cases h)
 root:=fun h=>(by cases h)
 own:=fun h=>(by cases h)
 hc:=by
  have hfr: ∀i p,kI (h0 n) i p=none:=fun i p=>rfl
  have iK: ∀i,fW (h0 n) i=[]:=fun i=>rfl
  have hd: ∀{m:Nat} {d:DT},(List.replicate n zD)[m]? =some d->d=zD:=fun{m d} h=>List.eq_of_mem_replicate (List.mem_of_getElem? h)
  have hg: ∀{m:Nat} {x:GT},(List.replicate 16 zG)[m]? =some x->x=zG:=fun{m d} h=>List.eq_of_mem_replicate (List.mem_of_getElem? h)
  have hc0: ∀q,kN (fW (h0 n)) q=0:=fun q=>sH fun i t ht=>by rw[iK i] at ht;cases ht
  refine⟨fun h=>?_,fun{m d} h=>?_,fun{m d} h h4=>?_,fun h=>?_,fun{i p a f} h=>?_,fun i=>?_,fun h=>?_,fun{m d} h=>?_,fun{m x} h=>?_,List.length_replicate,kJ.new 16⟩
  ·rw[hfr] at h;cases h
  ·rw[hd h];decide
  ·rw[hd h] at h4;exact absurd h4 (by decide)
  ·rw[hfr] at h;cases h
  ·rw[iK i] at h;unfold a9 at h;simp at h
  ·rw[iK i];exact List.nodup_nil
  ·rw[hfr] at h;cases h
  ·rw[hd h]
   unfold c_;rw[hc0];rfl
  ·rw[hg h]
   unfold kW;rw[hc0];rfl
end Go.Proofs.YtdnoecpjcoibmaaGreat
namespace Go.Proofs.YtdnoecpjcoibmaaGreat
set_option maxRecDepth 100000
open Go.RX D
noncomputable def Y0:dD Tryz.prog:={V0 with quiet:=17::V0.quiet}
theorem HB (w:World) (Post:Bool->World->Prop):(aH Y0 (fun _=>[]) 18 [] w Post)=(
 az Tryz.prog 12 (.bq [.one .ptr,.one (.int .i64)]) [.int .i64 20] w fun(x:Option Addr×Int×Unit) w2=>az Tryz.prog 12 (.bq [.one .ptr,.one (.int .i64)]) [.int .i64 3] w2 fun(x_1:Option Addr×Int×Unit) w2=>aB (x.2.1 != 0||x.1.isNone) (aj w2 fun w1=>Post false w1) (az Tryz.prog 14 (.el (.agg [.int .u64,.int .i64])) [.pointer x.1,.int .i64 0,.agg ⟨[.int .i64 1,.int .u64 0,.int .u64 0,.int .u64 0]⟩] w2 fun(x_2:Int×Int×Unit) w2=>aA w2 ⟨[.int .u64 0,.int .i64 0]⟩ 35 fun b w2=>av w2 (some ⟨b,0,none⟩) [.int .u64 x_2.1,.int .i64 x_2.2.1] fun w2=>
 az Tryz.prog 14 (.el (.agg [.int .u64,.int .i64])) [.pointer x.1,.int .i64 0,.agg ⟨[.int .i64 1,.int .u64 0,.int .u64 0,.int .u64 0]⟩] w2 fun(x_3:Int×Int×Unit) w2=>aA w2 ⟨[.int .u64 0,.int .i64 0]⟩ 35 fun b_1 w2=>av w2 (some ⟨b_1,0,none⟩) [.int .u64 x_3.1,.int .i64 x_3.2.1] fun w2=>az Tryz.prog 14 (.el (.agg [.int .u64,.int .i64])) [.pointer x.1,.int .i64 1,.agg ⟨[.int .i64 3,.int .u64 5,.int .u64 3,.int .u64 0]⟩] w2 fun(x_4:Int×Int×Unit) w2=>aA w2 ⟨[.int .u64 0,.int .i64 0]⟩ 35 fun b_2 w2=>av w2 (some ⟨b_2,0,none⟩) [.int .u64 x_4.1,.int .i64
 x_4.2.1] fun w2=>az Tryz.prog 14 (.el (.agg [.int .u64,.int .i64])) [.pointer x.1,.int .i64 1,.agg ⟨[.int .i64 7,.int .u64 80,.int .u64 9,.int .u64 0]⟩] w2 fun(x_5:Int×Int×Unit) w2=>aA w2 ⟨[.int .u64 0,.int .i64 0]⟩ 35 fun sN w2=>av w2 (some ⟨sN,0,none⟩) [.int .u64 x_5.1,.int .i64 x_5.2.1] fun w2=>az Tryz.prog 14 (.el (.agg [.int .u64,.int .i64])) [.pointer x.1,.int .i64 1,.agg ⟨[.int .i64 8,.int .u64 5,.int .u64 2,.int .u64 0]⟩] w2 fun(x_6:Int×Int×Unit) w2=>aA w2 ⟨[.int .u64 0,.int .i64 0]⟩ 35 fun BK w2=>av w2 (some ⟨BK,0,none⟩) [.int
 .u64 x_6.1,.int .i64 x_6.2.1] fun w2=>az Tryz.prog 14 (.el (.agg [.int .u64,.int .i64])) [.pointer x.1,.int .i64 2,.agg ⟨[.int .i64 9,.int .u64 0,.int .u64 7,.int .u64 1]⟩] w2 fun(x_7:Int×Int×Unit) w2=>aA w2 ⟨[.int .u64 0,.int .i64 0]⟩ 35 fun SF w2=>av w2 (some ⟨SF,0,none⟩) [.int .u64 x_7.1,.int .i64 x_7.2.1] fun w2=>az Tryz.prog 14 (.el (.agg [.int .u64,.int .i64])) [.pointer x.1,.int .i64 2,.agg ⟨[.int .i64 9,.int .u64 0,.int .u64 7,.int .u64 0]⟩] w2 fun(x_8:Int×Int×Unit) w2=>aA w2 ⟨[.int .u64 0,.int .i64 0]⟩ 35 fun Th w2=>av w2 (some
 ⟨Th,0,none⟩) [.int .u64 x_8.1,.int .i64 x_8.2.1] fun w2=>az Tryz.prog 14 (.el (.agg [.int .u64,.int .i64])) [.pointer x.1,.int .i64 2,.agg ⟨[.int .i64 6,.int .u64 112,.int .u64 0,.int .u64 0]⟩] w2 fun(x_9:Int×Int×Unit) w2=>aA w2 ⟨[.int .u64 0,.int .i64 0]⟩ 35 fun Ti w2=>av w2 (some ⟨Ti,0,none⟩) [.int .u64 x_9.1,.int .i64 x_9.2.1] fun w2=>az Tryz.prog 14 (.el (.agg [.int .u64,.int .i64])) [.pointer x.1,.int .i64 2,.agg ⟨[.int .i64 7,.int .u64 112,.int .u64 0,.int .u64 0]⟩] w2 fun(x_10:Int×Int×Unit) w2=>aA w2 ⟨[.int .u64 0,.int .i64 0]⟩ 35 fun
 Tj w2=>av w2 (some ⟨Tj,0,none⟩) [.int .u64 x_10.1,.int .i64 x_10.2.1] fun w2=>az Tryz.prog 14 (.el (.agg [.int .u64,.int .i64])) [.pointer x.1,.int .i64 1,.agg ⟨[.int .i64 4,.int .u64 5,.int .u64 0,.int .u64 0]⟩] w2 fun(x_11:Int×Int×Unit) w2=>aA w2 ⟨[.int .u64 0,.int .i64 0]⟩ 35 fun Ym w2=>av w2 (some ⟨Ym,0,none⟩) [.int .u64 x_11.1,.int .i64 x_11.2.1] fun w2=>az Tryz.prog 14 (.el (.agg [.int .u64,.int .i64])) [.pointer x.1,.int .i64 0,.agg ⟨[.int .i64 2,.int .u64 1,.int .u64 0,.int .u64 0]⟩] w2 fun(x_12:Int×Int×Unit) w2=>aA w2 ⟨[.int .u64
 0,.int .i64 0]⟩ 35 fun TO w2=>av w2 (some ⟨TO,0,none⟩) [.int .u64 x_12.1,.int .i64 x_12.2.1] fun w2=>az Tryz.prog 14 (.el (.agg [.int .u64,.int .i64])) [.pointer x.1,.int .i64 2,.agg ⟨[.int .i64 10,.int .u64 7,.int .u64 0,.int .u64 0]⟩] w2 fun(x_13:Int×Int×Unit) w2=>aA w2 ⟨[.int .u64 0,.int .i64 0]⟩ 35 fun TP w2=>av w2 (some ⟨TP,0,none⟩) [.int .u64 x_13.1,.int .i64 x_13.2.1] fun w2=>az Tryz.prog 14 (.el (.agg [.int .u64,.int .i64])) [.pointer x.1,.int .i64 0,.agg ⟨[.int .i64 2,.int .u64 1,.int .u64 0,.int .u64 0]⟩] w2 fun(x_14:Int×Int×
 Unit) w2=>aA w2 ⟨[.int .u64 0,.int .i64 0]⟩ 35 fun TQ w2=>av w2 (some ⟨TQ,0,none⟩) [.int .u64 x_14.1,.int .i64 x_14.2.1] fun w2=>az Tryz.prog 14 (.el (.agg [.int .u64,.int .i64])) [.pointer x.1,.int .i64 1,.agg ⟨[.int .i64 15,.int .u64 0,.int .u64 0,.int .u64 0]⟩] w2 fun(x_15:Int×Int×Unit) w2=>aA w2 ⟨[.int .u64 0,.int .i64 0]⟩ 35 fun TR w2=>av w2 (some ⟨TR,0,none⟩) [.int .u64 x_15.1,.int .i64 x_15.2.1] fun w2=>az Tryz.prog 14 (.el (.agg [.int .u64,.int .i64])) [.pointer x.1,.int .i64 0,.agg ⟨[.int .i64 17,.int .u64 0,.int .u64 0,.int .u64
 0]⟩] w2 fun(x_16:Int×Int×Unit) w2=>aA w2 ⟨[.int .u64 0,.int .i64 0]⟩ 35 fun TS w2=>av w2 (some ⟨TS,0,none⟩) [.int .u64 x_16.1,.int .i64 x_16.2.1] fun w2=>az Tryz.prog 14 (.el (.agg [.int .u64,.int .i64])) [.pointer x.1,.int .i64 2,.agg ⟨[.int .i64 1,.int .u64 0,.int .u64 0,.int .u64 0]⟩] w2 fun(x_17:Int×Int×Unit) w2=>aA w2 ⟨[.int .u64 0,.int .i64 0]⟩ 35 fun TT w2=>av w2 (some ⟨TT,0,none⟩) [.int .u64 x_17.1,.int .i64 x_17.2.1] fun w2=>aA w2 ⟨[.int .u64 0,.int .i64 0]⟩ 35 fun IG w2=>av w2 (some ⟨IG,0,none⟩) [.int .u64 0,.int .i64
 0] fun w2=>((x_1.2.1==1)=true->true=true)/\ag w2 (some (x_1.2.1==1)) (af (some ⟨b,0,none⟩) 0) (.one (.int .u64)) fun(x_18:Int)=>((x_1.2.1==1&&x_18==1)=true->true=true)/\ag w2 (some (x_1.2.1==1&&x_18==1)) (af (some ⟨b_1,0,none⟩) 0) (.one (.int .u64)) fun(x_19:Int)=>ag w2 (some (x_1.2.1==1&&x_18==1&&x_19==2)) (some ⟨b_2,0,none⟩) (.agg [.int .u64,.int .i64]) fun(x_20:Int×Int×Unit)=>ag w2 (some (x_1.2.1==1&&x_18==1&&x_19==2&&(x_20.1==2&&(x_20.2.1==0&&true)))) (some ⟨sN,0,none⟩) (.agg [.int .u64,.int
 .i64]) fun(x_21:Int×Int×Unit)=>ag w2 (some (x_1.2.1==1&&x_18==1&&x_19==2&&(x_20.1==2&&(x_20.2.1==0&&true)))) (some ⟨IG,0,none⟩) (.agg [.int .u64,.int .i64]) fun(x_22:Int×Int×Unit)=>ag w2 (some (x_1.2.1==1&&x_18==1&&x_19==2&&(x_20.1==2&&(x_20.2.1==0&&true))&&(x_21.1==x_22.1&&(x_21.2.1==x_22.2.1&&true)))) (some ⟨BK,0,none⟩) (.agg [.int .u64,.int .i64]) fun(x_23:Int×Int×Unit)=>ag w2 (some (x_1.2.1==1&&x_18==1&&x_19==2&&(x_20.1==2&&(x_20.2.1==0&&true))&&(x_21.1==x_22.1&&(x_21.2.1==
 x_22.2.1&&true)))) (some ⟨IG,0,none⟩) (.agg [.int .u64,.int .i64]) fun(x_24:Int×Int×Unit)=>((x_1.2.1==1&&x_18==1&&x_19==2&&(x_20.1==2&&(x_20.2.1==0&&true))&&(x_21.1==x_22.1&&(x_21.2.1==x_22.2.1&&true))&&(x_23.1==x_24.1&&(x_23.2.1==x_24.2.1&&true)))=true->true=true)/\ag w2 (some (x_1.2.1==1&&x_18==1&&x_19==2&&(x_20.1==2&&(x_20.2.1==0&&true))&&(x_21.1==x_22.1&&(x_21.2.1==x_22.2.1&&true))&&(x_23.1==x_24.1&&(x_23.2.1==x_24.2.1&&true)))) (af (some ⟨SF,0,none⟩) 1) (.one (.int .i64)) fun(x_25
 :Int)=>ag w2 (some (x_1.2.1==1&&x_18==1&&x_19==2&&(x_20.1==2&&(x_20.2.1==0&&true))&&(x_21.1==x_22.1&&(x_21.2.1==x_22.2.1&&true))&&(x_23.1==x_24.1&&(x_23.2.1==x_24.2.1&&true))&&x_25==7)) (some ⟨Th,0,none⟩) (.agg [.int .u64,.int .i64]) fun(dN:Int×Int×Unit)=>ag w2 (some (x_1.2.1==1&&x_18==1&&x_19==2&&(x_20.1==2&&(x_20.2.1==0&&true))&&(x_21.1==x_22.1&&(x_21.2.1==x_22.2.1&&true))&&(x_23.1==x_24.1&&(x_23.2.1==x_24.2.1&&true))&&x_25==7)) (some ⟨IG,0,none⟩) (.agg [.int .u64,.int .i64]) fun
 (eM:Int×Int×Unit)=>ag w2 (some (x_1.2.1==1&&x_18==1&&x_19==2&&(x_20.1==2&&(x_20.2.1==0&&true))&&(x_21.1==x_22.1&&(x_21.2.1==x_22.2.1&&true))&&(x_23.1==x_24.1&&(x_23.2.1==x_24.2.1&&true))&&x_25==7&&(dN.1==eM.1&&(dN.2.1==eM.2.1&&true)))) (some ⟨Ti,0,none⟩) (.agg [.int .u64,.int .i64]) fun(fj:Int×Int×Unit)=>((x_1.2.1==1&&x_18==1&&x_19==2&&(x_20.1==2&&(x_20.2.1==0&&true))&&(x_21.1==x_22.1&&(x_21.2.1==x_22.2.1&&true))&&(x_23.1==x_24.1&&(x_23.2.1==x_24.2.1&&true))&&x_25
 ==7&&(dN.1==eM.1&&(dN.2.1==eM.2.1&&true))&&(fj.1==9&&(fj.2.1==0&&true)))=true->true=true)/\ag w2 (some (x_1.2.1==1&&x_18==1&&x_19==2&&(x_20.1==2&&(x_20.2.1==0&&true))&&(x_21.1==x_22.1&&(x_21.2.1==x_22.2.1&&true))&&(x_23.1==x_24.1&&(x_23.2.1==x_24.2.1&&true))&&x_25==7&&(dN.1==eM.1&&(dN.2.1==eM.2.1&&true))&&(fj.1==9&&(fj.2.1==0&&true)))) (af (some ⟨Tj,0,none⟩) 1) (.one (.int .i64)) fun(mV:Int)=>((x_1.2.1==1&&x_18==1&&x_19==2&&(x_20.1==2&&(x_20.2.1==0
 &&true))&&(x_21.1==x_22.1&&(x_21.2.1==x_22.2.1&&true))&&(x_23.1==x_24.1&&(x_23.2.1==x_24.2.1&&true))&&x_25==7&&(dN.1==eM.1&&(dN.2.1==eM.2.1&&true))&&(fj.1==9&&(fj.2.1==0&&true))&&mV==7)=true->true=true)/\ag w2 (some (x_1.2.1==1&&x_18==1&&x_19==2&&(x_20.1==2&&(x_20.2.1==0&&true))&&(x_21.1==x_22.1&&(x_21.2.1==x_22.2.1&&true))&&(x_23.1==x_24.1&&(x_23.2.1==x_24.2.1&&true))&&x_25==7&&(dN.1==eM.1&&(dN.2.1==eM.2.1&&true))&&(fj.1==9&&(fj.2.1==0&&true))&&
 mV==7)) (af (some ⟨Ym,0,none⟩) 1) (.one (.int .i64)) fun(pL:Int)=>((x_1.2.1==1&&x_18==1&&x_19==2&&(x_20.1==2&&(x_20.2.1==0&&true))&&(x_21.1==x_22.1&&(x_21.2.1==x_22.2.1&&true))&&(x_23.1==x_24.1&&(x_23.2.1==x_24.2.1&&true))&&x_25==7&&(dN.1==eM.1&&(dN.2.1==eM.2.1&&true))&&(fj.1==9&&(fj.2.1==0&&true))&&mV==7&&pL==9)=true->true=true)/\ag w2 (some (x_1.2.1==1&&x_18==1&&x_19==2&&(x_20.1==2&&(x_20.2.1==0&&true))&&(x_21.1==x_22.1&&(x_21.2.1==x_22.2.1&&true))&&
 (x_23.1==x_24.1&&(x_23.2.1==x_24.2.1&&true))&&x_25==7&&(dN.1==eM.1&&(dN.2.1==eM.2.1&&true))&&(fj.1==9&&(fj.2.1==0&&true))&&mV==7&&pL==9)) (af (some ⟨TO,0,none⟩) 1) (.one (.int .i64)) fun(rW:Int)=>ag w2 (some (x_1.2.1==1&&x_18==1&&x_19==2&&(x_20.1==2&&(x_20.2.1==0&&true))&&(x_21.1==x_22.1&&(x_21.2.1==x_22.2.1&&true))&&(x_23.1==x_24.1&&(x_23.2.1==x_24.2.1&&true))&&x_25==7&&(dN.1==eM.1&&(dN.2.1==eM.2.1&&true))&&(fj.1==9&&(fj.2.1==0&&true))&&mV==7
 &&pL==9&&rW==9)) (some ⟨TP,0,none⟩) (.agg [.int .u64,.int .i64]) fun(jU:Int×Int×Unit)=>ag w2 (some (x_1.2.1==1&&x_18==1&&x_19==2&&(x_20.1==2&&(x_20.2.1==0&&true))&&(x_21.1==x_22.1&&(x_21.2.1==x_22.2.1&&true))&&(x_23.1==x_24.1&&(x_23.2.1==x_24.2.1&&true))&&x_25==7&&(dN.1==eM.1&&(dN.2.1==eM.2.1&&true))&&(fj.1==9&&(fj.2.1==0&&true))&&mV==7&&pL==9&&rW==9)) (some ⟨IG,0,none⟩) (.agg [.int .u64,.int .i64]) fun(jV:Int×Int×Unit)=>ag w2 (some (x_1.2.1==1&&x_18
 ==1&&x_19==2&&(x_20.1==2&&(x_20.2.1==0&&true))&&(x_21.1==x_22.1&&(x_21.2.1==x_22.2.1&&true))&&(x_23.1==x_24.1&&(x_23.2.1==x_24.2.1&&true))&&x_25==7&&(dN.1==eM.1&&(dN.2.1==eM.2.1&&true))&&(fj.1==9&&(fj.2.1==0&&true))&&mV==7&&pL==9&&rW==9&&(jU.1==jV.1&&(jU.2.1==jV.2.1&&true)))) (some ⟨TQ,0,none⟩) (.agg [.int .u64,.int .i64]) fun(kO:Int×Int×Unit)=>((x_1.2.1==1&&x_18==1&&x_19==2&&(x_20.1==2&&(x_20.2.1==0&&true))&&(x_21.1==x_22.1&&(x_21.2.1==
 x_22.2.1&&true))&&(x_23.1==x_24.1&&(x_23.2.1==x_24.2.1&&true))&&x_25==7&&(dN.1==eM.1&&(dN.2.1==eM.2.1&&true))&&(fj.1==9&&(fj.2.1==0&&true))&&mV==7&&pL==9&&rW==9&&(jU.1==jV.1&&(jU.2.1==jV.2.1&&true))&&(kO.1==1&&(kO.2.1==0&&true)))=true->true=true)/\ag w2 (some (x_1.2.1==1&&x_18==1&&x_19==2&&(x_20.1==2&&(x_20.2.1==0&&true))&&(x_21.1==x_22.1&&(x_21.2.1==x_22.2.1&&true))&&(x_23.1==x_24.1&&(x_23.2.1==x_24.2.1&&true))&&x_25==7&&(dN.1==eM.1&&
 (dN.2.1==eM.2.1&&true))&&(fj.1==9&&(fj.2.1==0&&true))&&mV==7&&pL==9&&rW==9&&(jU.1==jV.1&&(jU.2.1==jV.2.1&&true))&&(kO.1==1&&(kO.2.1==0&&true)))) (af (some ⟨TR,0,none⟩) 1) (.one (.int .i64)) fun(Ar:Int)=>ag w2 (some (x_1.2.1==1&&x_18==1&&x_19==2&&(x_20.1==2&&(x_20.2.1==0&&true))&&(x_21.1==x_22.1&&(x_21.2.1==x_22.2.1&&true))&&(x_23.1==x_24.1&&(x_23.2.1==x_24.2.1&&true))&&x_25==7&&(dN.1==eM.1&&(dN.2.1==eM.2.1&&true))&&(fj.1==9&&(fj.2.1==0
 &&true))&&mV==7&&pL==9&&rW==9&&(jU.1==jV.1&&(jU.2.1==jV.2.1&&true))&&(kO.1==1&&(kO.2.1==0&&true))&&Ar==4)) (some ⟨TS,0,none⟩) (.agg [.int .u64,.int .i64]) fun(qy:Int×Int×Unit)=>((x_1.2.1==1&&x_18==1&&x_19==2&&(x_20.1==2&&(x_20.2.1==0&&true))&&(x_21.1==x_22.1&&(x_21.2.1==x_22.2.1&&true))&&(x_23.1==x_24.1&&(x_23.2.1==x_24.2.1&&true))&&x_25==7&&(dN.1==eM.1&&(dN.2.1==eM.2.1&&true))&&(fj.1==9&&(fj.2.1==0&&true))&&mV==7&&pL==9&&rW==9
 &&(jU.1==jV.1&&(jU.2.1==jV.2.1&&true))&&(kO.1==1&&(kO.2.1==0&&true))&&Ar==4&&(qy.1==8&&(qy.2.1==0&&true)))=true->true=true)/\ag w2 (some (x_1.2.1==1&&x_18==1&&x_19==2&&(x_20.1==2&&(x_20.2.1==0&&true))&&(x_21.1==x_22.1&&(x_21.2.1==x_22.2.1&&true))&&(x_23.1==x_24.1&&(x_23.2.1==x_24.2.1&&true))&&x_25==7&&(dN.1==eM.1&&(dN.2.1==eM.2.1&&true))&&(fj.1==9&&(fj.2.1==0&&true))&&mV==7&&pL==9&&rW==9&&(jU.1==jV.1&&(jU.2.1==jV.2.1&&true))
 &&(kO.1==1&&(kO.2.1==0&&true))&&Ar==4&&(qy.1==8&&(qy.2.1==0&&true)))) (af (some ⟨TT,0,none⟩) 1) (.one (.int .i64)) fun(II:Int)=> ∃IJ,((x_1.2.1==1&&x_18==1&&x_19==2&&(x_20.1==2&&(x_20.2.1==0&&true))&&(x_21.1==x_22.1&&(x_21.2.1==x_22.2.1&&true))&&(x_23.1==x_24.1&&(x_23.2.1==x_24.2.1&&true))&&x_25==7&&(dN.1==eM.1&&(dN.2.1==eM.2.1&&true))&&(fj.1==9&&(fj.2.1==0&&true))&&mV==7&&pL==9&&rW==9&&(jU.1==jV.1&&(jU.2.1==jV.2.1&&true))&&(kO.1
 ==1&&(kO.2.1==0&&true))&&Ar==4&&(qy.1==8&&(qy.2.1==0&&true))&&II==7)=true->ah Tryz.prog 16 [.pointer x.1,.int .i64 1] w2 (.bool IJ))/\ ∃Nc,((x_1.2.1==1&&x_18==1&&x_19==2&&(x_20.1==2&&(x_20.2.1==0&&true))&&(x_21.1==x_22.1&&(x_21.2.1==x_22.2.1&&true))&&(x_23.1==x_24.1&&(x_23.2.1==x_24.2.1&&true))&&x_25==7&&(dN.1==eM.1&&(dN.2.1==eM.2.1&&true))&&(fj.1==9&&(fj.2.1==0&&true))&&mV==7&&pL==9&&rW==9&&(jU.1==jV.1&&(jU.2.1==jV.2.1&&true))&&
 (kO.1==1&&(kO.2.1==0&&true))&&Ar==4&&(qy.1==8&&(qy.2.1==0&&true))&&II==7&& !IJ)=true->ah Tryz.prog 16 [.pointer x.1,.int .i64 2] w2 (.bool Nc))/\ ∃(QY:Int),((x_1.2.1==1&&x_18==1&&x_19==2&&(x_20.1==2&&(x_20.2.1==0&&true))&&(x_21.1==x_22.1&&(x_21.2.1==x_22.2.1&&true))&&(x_23.1==x_24.1&&(x_23.2.1==x_24.2.1&&true))&&x_25==7&&(dN.1==eM.1&&(dN.2.1==eM.2.1&&true))&&(fj.1==9&&(fj.2.1==0&&true))&&mV==7&&pL==9&&rW==9&&(jU.1==jV.1&&(jU.2.1==
 jV.2.1&&true))&&(kO.1==1&&(kO.2.1==0&&true))&&Ar==4&&(qy.1==8&&(qy.2.1==0&&true))&&II==7&& !IJ&&Nc)=true->ah Tryz.prog 32 [.pointer x.1,.int .i64 1] w2 (.int .i64 QY))/\ ∃TU,((x_1.2.1==1&&x_18==1&&x_19==2&&(x_20.1==2&&(x_20.2.1==0&&true))&&(x_21.1==x_22.1&&(x_21.2.1==x_22.2.1&&true))&&(x_23.1==x_24.1&&(x_23.2.1==x_24.2.1&&true))&&x_25==7&&(dN.1==eM.1&&(dN.2.1==eM.2.1&&true))&&(fj.1==9&&(fj.2.1==0&&true))&&mV==7&&pL==9&&rW==9&&(jU.1
 ==jV.1&&(jU.2.1==jV.2.1&&true))&&(kO.1==1&&(kO.2.1==0&&true))&&Ar==4&&(qy.1==8&&(qy.2.1==0&&true))&&II==7&& !IJ&&Nc&&QY== -1)=true->ah Tryz.prog 17 [.pointer x.1,.int .i64 1,.int .i64 2] w2 (.bool TU))/\aj w2 fun w1=>Post (x_1.2.1==1&&x_18==1&&x_19==2&&(x_20.1==2&&(x_20.2.1==0&&true))&&(x_21.1==x_22.1&&(x_21.2.1==x_22.2.1&&true))&&(x_23.1==x_24.1&&(x_23.2.1==x_24.2.1&&true))&&x_25==7&&(dN.1==eM.1&&(dN.2.1==eM.2.1&&true))&&(fj.1==9&&(fj.2.1==
 0&&true))&&mV==7&&pL==9&&rW==9&&(jU.1==jV.1&&(jU.2.1==jV.2.1&&true))&&(kO.1==1&&(kO.2.1==0&&true))&&Ar==4&&(qy.1==8&&(qy.2.1==0&&true))&&II==7&& !IJ&&Nc&&QY== -1&& !TU) w1)):=by kernel_rfl
theorem Mq (v k a b c:Int) (w:World) (Post:Bool->World->Prop):(aH Y0 (fun _=>[]) 9 [.int .i64 v,.agg ⟨[.int .i64 k,.int .u64 a,.int .u64 b,.int .u64 c]⟩] w Post)=(
 aA w ⟨[.int .i64 k,.int .u64 a,.int .u64 b,.int .u64 c]⟩ 31 fun b w2=>aA w2 {toList:=[.pointer none,.pointer none,.pointer none,.pointer none,.pointer none,.pointer none,.pointer none,.pointer none,.pointer none,.pointer none,.pointer none,.pointer none,.pointer none,.pointer none,.pointer none,.pointer none,.pointer none,.pointer none,.pointer none,.pointer none,.pointer none]} 90 fun b_1 w2=>az Tryz.prog 15 (.bq [.one (.int .i64),.one (.int .i64),.one (.int .i64)]) [.pointer none,.int .i64 v,.int .i64 0] w2 fun(x:Int×Int×Int×Unit) w2=> ∃
 (x_1:Int×Bool×Unit),ah Tryz.prog 22 [.pointer (some ⟨b_1,0,none⟩),.int .i64 v,.int .i64 0] w2 (.tuple ⟨[.int .i64 x_1.1,.bool x_1.2.1]⟩)/\ag w2 none (some ⟨b,0,none⟩) (.agg [.int .i64,.int .u64,.int .u64,.int .u64]) fun(x_2:Int×Int×Int×Int×Unit)=>az Tryz.prog 14 (.el (.agg [.int .u64,.int .i64])) [.pointer none,.int .i64 v,.agg ⟨[.int .i64 x_2.1,.int .u64 x_2.2.1,.int .u64 x_2.2.2.1,.int .u64 x_2.2.2.2.1]⟩] w2 fun(x_3:Int×Int×Unit) w2=>ag w2 (some (x_3.1==0&&(x_3.2.1==10&&true))) (some ⟨b,0,none⟩) (.agg [.int .i64,.int .u64,.int
 .u64,.int .u64]) fun(x_4:Int×Int×Int×Int×Unit)=>aB (x_3.1==0&&(x_3.2.1==10&&true)) (az Tryz.prog 14 (.el (.agg [.int .u64,.int .i64])) [.pointer (some ⟨b_1,0,none⟩),.int .i64 v,.agg ⟨[.int .i64 x_4.1,.int .u64 x_4.2.1,.int .u64 x_4.2.2.1,.int .u64 x_4.2.2.2.1]⟩] w2 fun(x_5:Int×Int×Unit) w2=> ∃x_6,((x_5.1==0&&(x_5.2.1==10&&true))=true->ah Tryz.prog 16 [.pointer none,.int .i64 v] w2 (.bool x_6))/\ ∃x_7,((x_5.1==0&&(x_5.2.1==10&&true)&& !x_6)=true->ah Tryz.prog 16 [.pointer (some ⟨b_1,0,none⟩),.int .i64 v] w2 (.bool
 x_7))/\ ∃(x_8:Int),((x_5.1==0&&(x_5.2.1==10&&true)&& !x_6&& !x_7)=true->ah Tryz.prog 32 [.pointer none,.int .i64 v] w2 (.int .i64 x_8))/\ ∃(x_9:Int),((x_5.1==0&&(x_5.2.1==10&&true)&& !x_6&& !x_7&&x_8== -1)=true->ah Tryz.prog 32 [.pointer (some ⟨b_1,0,none⟩),.int .i64 v] w2 (.int .i64 x_9))/\ ∃x_10,((x_5.1==0&&(x_5.2.1==10&&true)&& !x_6&& !x_7&&x_8== -1&&x_9== -1&&x.2.2.1==10&& !x_1.2.1)=true->ah Tryz.prog 17 [.pointer none,.int .i64 1,.int .i64 1] w2 (.bool x_10))/\ ∃x_11,((x_5.1==0&&(x_5.2.1==10&&true)
 && !x_6&& !x_7&&x_8== -1&&x_9== -1&&x.2.2.1==10&& !x_1.2.1&& !x_10)=true->ah Tryz.prog 17 [.pointer (some ⟨b_1,0,none⟩),.int .i64 1,.int .i64 1] w2 (.bool x_11))/\aB (x_5.1==0&&(x_5.2.1==10&&true)&& !x_6&& !x_7&&x_8== -1&&x_9== -1&&x.2.2.1==10&& !x_1.2.1&& !x_10&& !x_11) (az Tryz.prog 19 (.el (.one .ptr)) [.pointer none] w2 fun x w2=>aB x.isNone (az Tryz.prog 26 (.el (.one .ptr)) [.pointer (some ⟨b_1,0,none⟩)] w2 fun x w2=>aB x.isNone (az Tryz.prog 37 (.el (.one (.int .i64))) [.pointer none,.int .i64 0] w2 fun(x:Int) w2=>aB (x
 ==10) (az Tryz.prog 37 (.el (.one (.int .i64))) [.pointer (some ⟨b_1,0,none⟩),.int .i64 0] w2 fun(x:Int) w2=>aB (x==10) (az Tryz.prog 18 (.el (.one .bool)) [] w2 fun x w2=>aj w2 fun w1=>Post x w1) (aj w2 fun w1=>Post false w1)) (aj w2 fun w1=>Post false w1)) (aj w2 fun w1=>Post false w1)) (aj w2 fun w1=>Post false w1)) (aj w2 fun w1=>Post false w1)) (∃x,(false=true->ah Tryz.prog 16 [.pointer none,.int .i64 v] w2 (.bool x))/\ ∃x,(false=true->ah Tryz.prog 16 [.pointer (some ⟨b_1,0,none⟩),.int .i64 v] w2 (.bool x))/\ ∃(x:Int),(false=
 true->ah Tryz.prog 32 [.pointer none,.int .i64 v] w2 (.int .i64 x))/\ ∃(x:Int),(false=true->ah Tryz.prog 32 [.pointer (some ⟨b_1,0,none⟩),.int .i64 v] w2 (.int .i64 x))/\ ∃x,(false=true->ah Tryz.prog 17 [.pointer none,.int .i64 1,.int .i64 1] w2 (.bool x))/\ ∃x,(false=true->ah Tryz.prog 17 [.pointer (some ⟨b_1,0,none⟩),.int .i64 1,.int .i64 1] w2 (.bool x))/\aj w2 fun w1=>Post false w1)):=by kernel_rfl
end Go.Proofs.YtdnoecpjcoibmaaGreat
namespace Go.Proofs.YtdnoecpjcoibmaaGreat
set_option maxRecDepth 100000
open Go.RX D
abbrev CQ:Type:=Int×Int×Int×Int×Int
def dQ (h:HS) (q:CQ):HS:=g_ h q.1 q.2.1 q.2.2.1 q.2.2.2.1 q.2.2.2.2
def rQ (h:HS) (q:CQ):Int×Int:=(qq h q.1 q.2.1 q.2.2.1 q.2.2.2.1 q.2.2.2.2,lH h q.1 q.2.1 q.2.2.1 q.2.2.2.1 q.2.2.2.2)
def runs:List CQ->HS->List (Int×Int)
 |[], _=>[]
 |q::l,h=>rQ h q::runs l (dQ h q)
def ends (l:List CQ) (h:HS):HS:=l.foldl dQ h
def kq:List CQ:=[(0,1,0,0,0),(0,1,0,0,0),(1,3,5,3,0),(1,7,80,9,0),(1,8,5,2,0),(2,9,0,7,1),(2,9,0,7,0),(2,6,112,0,0),(2,7,112,0,0),(1,4,5,0,0),(0,2,1,0,0),(2,10,7,0,0),(0,2,1,0,0),(1,15,0,0,0),(0,17,0,0,0),(2,1,0,0,0)]
theorem R_:runs kq (h0 20)=[(1,0),(2,0),(2,0),(0,0),(0,0),(0,7),(0,0),(9,0),(0,7),(0,9),(0,9),(0,0),(1,0),(0,4),(8,0),(0,7)]:=by decide+kernel
theorem O0:aD (ends kq (h0 20)).g 1=false:=by decide+kernel
theorem O1:aD (ends kq (h0 20)).g 2=true:=by decide+kernel
theorem O3:aT (ends kq (h0 20)).g 1= -1:=by decide+kernel
theorem Xn:(ends kq (h0 20)).gr=List.replicate 16 zG:=by decide+kernel
theorem Xo:(ends kq (h0 20)).po=Po.k0:=by decide+kernel
end Go.Proofs.YtdnoecpjcoibmaaGreat
namespace Go.Proofs.YtdnoecpjcoibmaaGreat
set_option maxRecDepth 100000
open Go.RX D
section
variable {Q:Sys} {X:HX} {D G:List Nat} {w0 w:World} {h:HS} {L:List (Nat×List Value)}
namespace bJ
theorem front (H:bJ Q X D G w0 w h L): ∃A,zW A h/\SM Q D G w0 w h.s (L++dF Q X A h (aR Q A h.g (List.range 17))) (dW A h.g (List.range 17)):=by
 have H':bJ Q X D G w0 w h (L++[]):=by rw[List.append_nil];exact H
 obtain⟨A,W,H⟩:=bJ.to H'
 rw[List.append_nil] at H
 exact⟨A,W,H⟩
theorem iI {A:Nat->GA} (W:zW A h) (H:SM Q D G w0 w h.s (L++dF Q X A h (aR Q A h.g (List.range 17))) (dW A h.g (List.range 17))):bJ Q X D G w0 w h L:=by
 have:bJ Q X D G w0 w h (L++[]):=bJ.of W (by rw[List.append_nil];exact H)
 rwa[List.append_nil] at this
theorem cY (H:bJ Q X D G w0 w h L) {i b:Nat} {l:List Value} (hL:L[i]? =some (b,l)):aY w b l:=by
 obtain⟨A,W,H⟩:=H.front
 exact H.base.get (by rw[List.getElem?_append_left (List.getElem?_eq_some_iff.1 hL).1];exact hL)
theorem ld (i:Nat) (H:bJ Q X D G w0 w h L) {g:Option Bool} {el:El} {K:el.T->Prop} {b o:Nat} {l:List Value} {x:el.T} (hL:L[i]? =some (b,l)) (hv:lI l o el=some x) (k:K x):ag w g (some ⟨b,o,none⟩) el K:=
 ag.of x (bY (H.cY hL) hv) k
theorem bu (i:Nat) (H:bJ Q X D G w0 w h L) {g:Option Bool} {el:El} {K:el.T->Prop} {b o n:Nat} {l:List Value} {x:el.T} (hL:L[i]? =some (b,l)) (hv:lI l (o+n) el=some x) (k:K x):ag w g (af (some ⟨b,o,none⟩) n) el K:=by
 rw[aK];exact H.ld i hL hv k
theorem en (H:bJ Q X D G w0 w h L) {K:World->Prop} (k: ∀w1,bJ Q X D G w0 w1 h L->K w1):aj w K:=fun _ h=>k _ (H.ext h)
theorem al (H:bJ Q X D G w0 w h L) {cs:List Value} {e:TypeId} {K:Nat->World->Prop} (k: ∀b w1,bJ Q X D G w0 w1 h ((b,cs)::L)->K b w1):aA w ⟨cs⟩ e K:=by
 obtain⟨A,W,H⟩:=H.front
 obtain⟨G',S,J⟩:=H.call
 exact S.al fun b w1 S=>k b w1 (iI W (J S))
theorem cC (i:Nat) (H:bJ Q X D G w0 w h L) {b:Nat} {l vs:List Value} {K:World->Prop} (hL:L[i]? =some (b,l)) (ho:vs.all (·.oneCell')=true) (hn:vs.length=l.length)
 (k: ∀w1,bJ Q X D G w0 w1 h (L.set i (b,vs))->K w1):av w (some ⟨b,0,none⟩) vs K:=by
 have hi:=(List.getElem?_eq_some_iff.1 hL).1
 obtain⟨A,W,H⟩:=H.front
 obtain⟨G',S,J⟩:=H.call
 refine S.cC i (by rw[List.getElem?_append_left hi];exact hL) ho hn fun w1 S=>k w1 (iI W (J ?_))
 rw[List.set_append_left _ _ hi] at S
 exact S
theorem lR (i:Nat) (H:bJ Q X D G w0 w h L) {b o n:Nat} {l:List Value} {x:Value} {K:World->Prop} (hL:L[i]? =some (b,l)) (ho:x.oneCell'=true) (hn:Nat.blt (o+n) l.length=true)
 (k: ∀w1,bJ Q X D G w0 w1 h (L.set i (b,l.set (o+n) x))->K w1):av w (af (some ⟨b,o,none⟩) n) [x] K:=by
 have hi:=(List.getElem?_eq_some_iff.1 hL).1
 obtain⟨A,W,H⟩:=H.front
 obtain⟨G',S,J⟩:=H.call
 refine S.lR i (by rw[List.getElem?_append_left hi];exact hL) ho hn fun w1 S=>k w1 (iI W (J ?_))
 rw[List.set_append_left _ _ hi] at S
 exact S
theorem sub {L':List (Nat×List Value)} (H:bJ Q X D G w0 w h L) (hs:L'.Sublist L):bJ Q X D G w0 w h L':=by
 obtain⟨A,W,H⟩:=H.front
 exact iI W (H.sub (hs.append_right _))
theorem all (H:bJ Q X [] [] w0 w h L):Ext w0 w:=by
 obtain⟨A,W,H⟩:=H
 obtain⟨_, _, _, _,ca,la,K⟩:=H
 exact K.all
theorem AB (H:bJ Q X D G w0 w h L) (v:Int):ah Tryz.prog 16 [.pointer (some ⟨X.hb,0,none⟩),.int .i64 v] w (.bool (aD h.g v)):=by
 obtain⟨A,W,H⟩:=H
 exact n5 H.base (X:=X) (A:=A) (g:=h.g) List.mem_cons_self v
theorem UM (H:bJ Q X D G w0 w h L) (v:Int):ah Tryz.prog 32 [.pointer (some ⟨X.hb,0,none⟩),.int .i64 v] w (.int .i64 (aT h.g v)):=by
 obtain⟨A,W,H⟩:=H
 exact Ey H.base (X:=X) (A:=A) (g:=h.g) List.mem_cons_self (a7 W []) v
end bJ
structure Good (Q:Sys) (h:HS):Prop where
 hi: ∃gh,HI gh h
 BO:Fe Q h.s
theorem Good.step (g:Good Q h) (v k:Int) {a:Int} (b c:Int) (ha:0<=a):Good Q (g_ h v k a b c):=by
 obtain⟨gh,H⟩:=g.hi
 refine⟨H.step v k b c ha,?_,?_⟩
 ·show(g_ h v k a b c).s.1.length<= _
  rw[Cw];exact g.BO.1
 ·show(g_ h v k a b c).s.1.length<= _
  rw[Cw];exact g.BO.2
theorem Good.new {n:Nat} (hn:4<=n/\n<=4096) (hQ:Q.c=16*n):Good Q (h0 n):=by
 refine⟨⟨_,HI.new hn⟩,?_,?_⟩
 ·show(List.replicate (16*n) (0:Int)).length<=Q.c
  rw[List.length_replicate,hQ];exact Nat.le_refl _
 ·show(List.replicate (16*n) (0:Int)).length<= _
  rw[List.length_replicate];omega
theorem QZ (H:bJ Q X D G w0 w h L) (g:Good Q h) (v k:Int) {a b c:Int} (ha:0<=a/\a<18446744073709551616) (hb:0<=b/\b<18446744073709551616) (hc:0<=c/\c<18446744073709551616) {K:RS->World->Prop}
 (kk: ∀w2,Good Q (g_ h v k a b c)->bJ Q X D G w0 w2 (g_ h v k a b c) L->K (qq h v k a b c,lH h v k a b c,()) w2):
 az Tryz.prog 14 (.el (.agg gw)) [.pointer (some ⟨X.hb,0,none⟩),.int .i64 v,.agg ⟨fi k a b c⟩] w K:=fun w1 h1=>by
 obtain⟨gh,I⟩:=g.hi
 exact R6 (H.ext h1) (I.ZQ g.BO) v k ha hb hc fun w2 H=>kk w2 (g.step v k b c ha.1) H
structure SG (l:List CQ) (rs:List (Int×Int)) (h:HS):Prop where
 r:runs l h=rs
 l1:aD (ends l h).g 1=false
 l2:aD (ends l h).g 2=true
 rt:aT (ends l h).g 1= -1
 gr:(ends l h).gr=List.replicate 16 zG
 po:(ends l h).po=Po.k0
theorem SG.step {q:CQ} {l:List CQ} {V E:Int} {rs:List (Int×Int)} (k:SG (q::l) ((V,E)::rs) h):(qq h q.1 q.2.1 q.2.2.1 q.2.2.2.1 q.2.2.2.2=V/\lH h q.1 q.2.1 q.2.2.1 q.2.2.2.1 q.2.2.2.2=E)/\SG l rs (dQ h q):=by
 obtain⟨r,l1,l2,rt,gr,po⟩:=k
 have r:rQ h q::runs l (dQ h q)=(V,E)::rs:=r
 obtain⟨r1,r2⟩:=List.cons.inj r
 refine⟨⟨congrArg (·.1) r1,congrArg (·.2) r1⟩,r2,l1,l2,rt,gr,po⟩
theorem oH (H:bJ Q X D G w0 w h L) (g:Good Q h) {v k a b c V E:Int} {l:List CQ} {rs:List (Int×Int)} (mN:SG ((v,k,a,b,c)::l) ((V,E)::rs) h) (ha:0<=a/\a<18446744073709551616) (hb:0<=b/\b<18446744073709551616) (hc:0<=c/\c<18446744073709551616) {e:TypeId} {K:RS->Nat->World->Prop}
 (kk: ∀h' b1 w2,SG l rs h'->Good Q h'->bJ Q X D G w0 w2 h' ((b1,[.int .u64 V,.int .i64 E])::L)->K (V,E,()) b1 w2):
 az Tryz.prog 14 (.el (.agg gw)) [.pointer (some ⟨X.hb,0,none⟩),.int .i64 v,.agg ⟨fi k a b c⟩] w fun x w2=>aA w2 ⟨[.int .u64 0,.int .i64 0]⟩ e fun b1 w2=>av w2 (some ⟨b1,0,none⟩) [.int .u64 x.1,.int .i64 x.2.1] fun w2=>K x b1 w2:=by
 obtain⟨⟨e1,e2⟩,k2⟩:=mN.step
 refine QZ H g v k ha hb hc fun w2 g2 H=>?_
 rw[show qq h v k a b c=V from e1,show lH h v k a b c=E from e2]
 exact H.al fun b1 w3 H=>H.cC 0 rfl rfl rfl fun w4 H=>kk _ b1 w4 k2 g2 H
end
theorem HD {a b:Int} (h:a≠b):qH (List.replicate 16 zG) Po.k0 a b=false:=by
 cases e:qH (List.replicate 16 zG) Po.k0 a b with
 |false=>rfl
 |true=>
  obtain⟨_, _,hr⟩:=sE.1 e
  refine absurd (hr.inv (fun v=>v=a) rfl fun u v hu he=>?_) (fun c=>h c.symm)
  rcases he with he|he
  ·obtain⟨_, _,h3⟩:=lu.1 he
   refine h3.inv (fun v=>v=a) hu fun u v _ he=>?_
   obtain⟨x,hx,hz, _⟩:=he
   exact absurd (List.eq_of_mem_replicate hx) hz
  ·obtain⟨_, _,h3⟩:=Po.su.1 he
   have hno: ∀u v,¬ Po.Ed 4 Po.k0 u v:=fun u v he=>by
    obtain⟨i, _,hz, _⟩:=he
    refine hz ?_
    unfold Po.gp Po.k0
    rw[List.getD_eq_getElem?_getD,List.getElem?_replicate]
    split<;>rfl
   exact h3.inv (fun v=>v=a) hu fun u v he=>absurd he (hno u v)
theorem yB (w:World):an Tryz.prog 18 (.el (.one .bool)) [] w (fun b w'=>b=true/\Ext w w'):=by
 refine ai (C:=Y0) (aJ:=fun _=>[]) (Eq.mpr (HB w _) ?_)
 have H0:=At.start [] w
 refine lY H0 20 (fun c=>by omega) fun _ _ Q X w1 hQ H=>?_
 rw[show((20:Int)).toNat=20 from rfl] at hQ H
 have g:=Good.new (Q:=Q) (n:=20) (by decide) hQ
 have mN:SG kq _ (h0 20):=⟨R_,O0,O1,O3,Xn,Xo⟩
 generalize h0 20=h at H g mN
 refine fun w2 h2=>ai (C:=V0) (aJ:=fun _=>[]) (Eq.mpr (Et 3 w2 _) (ay rfl fun w3 h3=>?_))
 have H:=(H.ext h2).ext h3
 refine ak rfl ?_
 refine oH H g mN (by decide) (by decide) (by decide) fun h b1 w4 mN g H=>?_
 refine oH H g mN (by decide) (by decide) (by decide) fun h b2 w4 mN g H=>?_
 refine oH H g mN (by decide) (by decide) (by decide) fun h b3 w4 mN g H=>?_
 refine oH H g mN (by decide) (by decide) (by decide) fun h b4 w4 mN g H=>?_
 refine oH H g mN (by decide) (by decide) (by decide) fun h b5 w4 mN g H=>?_
 refine oH H g mN (by decide) (by decide) (by decide) fun h b6 w4 mN g H=>?_
 refine oH H g mN (by decide) (by decide) (by decide) fun h b7 w4 mN g H=>?_
 refine oH H g mN (by decide) (by decide) (by decide) fun h b8 w4 mN g H=>?_
 refine oH H g mN (by decide) (by decide) (by decide) fun h b9 w4 mN g H=>?_
 refine oH H g mN (by decide) (by decide) (by decide) fun h b10 w4 mN g H=>?_
 refine oH H g mN (by decide) (by decide) (by decide) fun h b11 w4 mN g H=>?_
 refine oH H g mN (by decide) (by decide) (by decide) fun h b12 w4 mN g H=>?_
 refine oH H g mN (by decide) (by decide) (by decide) fun h b13 w4 mN g H=>?_
 refine oH H g mN (by decide) (by decide) (by decide) fun h b14 w4 mN g H=>?_
 refine oH H g mN (by decide) (by decide) (by decide) fun h b15 w4 mN g H=>?_
 refine oH H g mN (by decide) (by decide) (by decide) fun h b16 w4 mN g H=>?_
 obtain⟨_,l1,l2,rt,gr,po⟩:=mN
 have l1:aD h.g 1=false:=l1
 have l2:aD h.g 2=true:=l2
 have rt:aT h.g 1= -1:=rt
 have gr:h.gr=List.replicate 16 zG:=gr
 have po:h.po=Po.k0:=po
 refine H.al fun b0 w5 H=>H.cC 0 rfl rfl rfl fun w6 H=>?_
 refine⟨fun _=>rfl,H.bu 16 rfl rfl ⟨fun _=>rfl,H.bu 15 rfl rfl (H.ld 14 rfl (show _=some (2,0,()) from rfl) (H.ld 13 rfl (show _=some (0,0,()) from rfl) (H.ld 0 rfl (show _=some (0,0,()) from rfl) (H.ld 12 rfl (show _=some (0,0,()) from rfl) (H.ld 0 rfl (show _=some (0,0,()) from rfl) ⟨fun _=>rfl,H.bu 11 rfl rfl (H.ld 10 rfl (show _=some (0,0,()) from rfl) (H.ld 0 rfl (show _=some (0,0,()) from rfl) (H.ld 9 rfl (show _=some (9,0,()) from rfl) ?_)))⟩)))))⟩⟩
 refine⟨fun _=>rfl,H.bu 8 rfl rfl ⟨fun _=>rfl,H.bu 7 rfl rfl ⟨fun _=>rfl,H.bu 6 rfl rfl (H.ld 5 rfl (show _=some (0,0,()) from rfl) (H.ld 0 rfl (show _=some (0,0,()) from rfl) (H.ld 4 rfl (show _=some (1,0,()) from rfl) ⟨fun _=>rfl,H.bu 3 rfl rfl (H.ld 2 rfl (show _=some (8,0,()) from rfl) ⟨fun _=>rfl,H.bu 1 rfl rfl ?_⟩)⟩)))⟩⟩⟩
 refine⟨false,fun _=>by rw[<-l1];exact H.AB 1,true,fun _=>by rw[<-l2];exact H.AB 2,-1,fun _=>by rw[<-rt];exact H.UM 1,false,fun _=>?_,H.en fun w7 H=>⟨rfl,H.all⟩⟩
 have:=yq H 1 2
 rw[gr,po,HD (by decide)] at this
 exact this
end Go.Proofs.YtdnoecpjcoibmaaGreat
namespace Go.Proofs.YtdnoecpjcoibmaaGreat
set_option maxRecDepth 100000
open Go.RX D
def pM (w:World) (p:Option Addr):Prop:=p=none\/ ∃b l,p=some ⟨b,0,none⟩/\aY w b (.pointer none::l)
theorem pM.ext {w w':World} {p:Option Addr} (h:pM w p) (e:Ext w w'):pM w' p:=by
 rcases h with h|⟨b,l,h1,h2⟩
 ·exact .inl h
 ·exact .inr ⟨b,l,h1,h2.ext e⟩
section
variable {w:World} {p:Option Addr}
theorem gD (h:pM w p):ah Tryz.prog 47 [.pointer p] w (.bool false):=by
 refine ah.of (s:= .el (.one .bool)) fun w' h'=>ai (C:=V0) (aJ:=fun _=>[]) (Eq.mpr (xZ _ w' _) ?_)
 rcases h.ext h' with rfl|⟨b,l,rfl,hb⟩
 ·exact⟨fun h=>by simp at h,fun h=>by simp at h,none,fun h=>by simp at h,fun w1 h1=>⟨rfl,h1⟩⟩
 ·exact⟨fun _=>rfl,fun _=>rfl,ag.of none (by rw[aK];exact hb.lG rfl) fun w1 h1=>⟨rfl,h1⟩⟩
theorem ox (h:pM w p) (v:Int):ah Tryz.prog 16 [.pointer p,.int .i64 v] w (.bool false):=by
 refine ah.of (s:= .el (.one .bool)) fun w' h'=>ai (C:=V0) (aJ:=fun _=>[]) (Eq.mpr (A0 _ v w' _) ?_)
 exact⟨false,gD (h.ext h'),fun c=>by simp at c,fun c=>by simp at c,fun c=>by simp at c,none,fun c=>by simp at c,fun w1 h1=>⟨by simp,h1⟩⟩
theorem yC (h:pM w p) (v:Int):ah Tryz.prog 32 [.pointer p,.int .i64 v] w (.int .i64 (-1)):=by
 refine ah.of (s:= .el (.one (.int .i64))) fun w' h'=>ai (C:=V0) (aJ:=fun _=>[]) (Eq.mpr (A1 _ v w' _) ?_)
 exact⟨false,ox (h.ext h') v,ay rfl fun w1 h1=>⟨rfl,h1⟩⟩
theorem Dv (h:pM w p) (v g:Int):ah Tryz.prog 22 [.pointer p,.int .i64 v,.int .i64 g] w ((Sh.bq [.one (.int .i64),.one .bool]).gi (0,false,())):=by
 refine ah.of (s:= .bq [.one (.int .i64),.one .bool]) fun w' h'=>ai (C:=V0) (aJ:=fun _=>[]) (Eq.mpr (x_ _ v g w' _) ?_)
 exact⟨false,ox (h.ext h') v,ay rfl fun w1 h1=>⟨rfl,h1⟩⟩
theorem tT (h:pM w p) (a b:Int):ah Tryz.prog 17 [.pointer p,.int .i64 a,.int .i64 b] w (.bool false):=by
 refine ah.of (s:= .el (.one .bool)) fun w' h'=>ai (C:=V2) (aJ:=fun _=>[]) (Eq.mpr (wg _ a b w' _) ?_)
 have H:=At.start [] w'
 exact aA.go H fun bd w2 H=>ag.at 0 H rfl rfl ⟨false,gD ((h.ext h').ext H.all),ay rfl (aj.go H fun w3 H=>⟨rfl,H.all⟩)⟩
theorem Dw (h:pM w p) (v g:Int):an Tryz.prog 15 (.bq [.one (.int .i64),.one (.int .i64),.one (.int .i64)]) [.pointer p,.int .i64 v,.int .i64 g] w (fun x w'=>x=(0,0,10,())/\Ext w w'):=
 ai (C:=V0) (aJ:=fun _=>[]) (Eq.mpr (x9 _ v g w _) ⟨false,gD h,ay rfl fun w1 h1=>⟨rfl,h1⟩⟩)
theorem By (h:pM w p):an Tryz.prog 19 (.el (.one .ptr)) [.pointer p] w (fun x w'=>x=none/\Ext w w'):=
 ai (C:=V0) (aJ:=fun _=>[]) (Eq.mpr (v_ _ w _) ⟨false,gD h,ay rfl fun w1 h1=>⟨rfl,h1⟩⟩)
theorem Bz (h:pM w p):an Tryz.prog 26 (.el (.one .ptr)) [.pointer p] w (fun x w'=>x=none/\Ext w w'):=
 ai (C:=V0) (aJ:=fun _=>[]) (Eq.mpr (we _ w _) ⟨false,gD h,ay rfl fun w1 h1=>⟨rfl,h1⟩⟩)
theorem yD (h:pM w p) (f:Int):an Tryz.prog 37 (.el (.one (.int .i64))) [.pointer p,.int .i64 f] w (fun x w'=>x=10/\Ext w w'):=
 ai (C:=V0) (aJ:=fun _=>[]) (Eq.mpr (A3 _ f w _) ⟨false,gD h,ay rfl fun w1 h1=>⟨rfl,h1⟩⟩)
theorem ER (h:pM w p) (v k a b c:Int):an Tryz.prog 14 (.el (.agg gw)) [.pointer p,.int .i64 v,.agg ⟨fi k a b c⟩] w (fun x w'=>x=(0,10,())/\Ext w w'):=by
 refine aL (C:=V1) (aJ:=fun _=>[]) (Eq.mpr (JC _ v k a b c w _) ?_)
 have H:=At.start [] w
 exact aA.go H fun ba w2 H=>aA.go H fun b1 w3 H=>⟨false,gD (h.ext H.all),ay rfl ⟨trivial,av.all 0 H rfl rfl rfl fun w4 H=>aj.go H fun w5 H=>ag.at 0 H rfl (show _=some (0,10,()) from rfl) ⟨rfl,H.all⟩⟩⟩
end
abbrev Wv:List Sc:=[.int .i64,.int .u64,.int .u64,.int .u64]
theorem HE (v:Int) (_:(Lit.int .i64 v).wf=true) (q:d_ Wv) (_:fF Wv q) {w:World}:
 an Tryz.prog 9 (.el (.one .bool)) [.int .i64 v,.agg ⟨aP Wv q⟩] w (fun b w'=>b=true/\Ext w w'):=by
 obtain⟨k,a,b,c,u⟩:=q
 refine ai (C:=Y0) (aJ:=fun _=>[]) (Eq.mpr (Mq v k a b c w _) ?_)
 have h0: ∀w':World,pM w' none:=fun _=> .inl rfl
 refine aA.go (At.start [] w) fun bc w1 H=>aA.go H fun bz w2 H=>?_
 have hz: ∀{w':World} {L:List (Nat×List Value)} {x:List Value},At [] w w' ((bz,.pointer none::x)::L)->pM w' (some ⟨bz,0,none⟩):=fun H=> .inr ⟨bz, _,rfl,H.get (i:=0) rfl⟩
 refine az.val H (s:= .bq [.one (.int .i64),.one (.int .i64),.one (.int .i64)]) (0,0,10,()) (fun w3 H=>Dw (h0 w3) v 0) fun w3 H=>?_
 refine⟨(0,false,()),Dv (hz H) v 0,ag.at 1 H rfl (show _=some (k,a,b,c,()) from rfl) ?_⟩
 refine az.val H (s:= .el (.agg gw)) (0,10,()) (fun w4 H=>ER (h0 w4) v k a b c) fun w4 H=>ag.at 1 H rfl (show _=some (k,a,b,c,()) from rfl) (ay rfl ?_)
 refine az.val H (s:= .el (.agg gw)) (0,10,()) (fun w5 H=>ER (hz H) v k a b c) fun w5 H=>?_
 refine⟨false,fun _=>ox (h0 _) v,false,fun _=>ox (hz H) v,-1,fun _=>yC (h0 _) v,-1,fun _=>yC (hz H) v,false,fun _=>tT (h0 _) 1 1,false,fun _=>tT (hz H) 1 1,ay rfl ?_⟩
 refine az.val H (s:= .el (.one .ptr)) none (fun w6 H=>By (h0 w6)) fun w6 H=>ay rfl ?_
 refine az.val H (s:= .el (.one .ptr)) none (fun w7 H=>Bz (hz H)) fun w7 H=>ay rfl ?_
 refine az.val H (s:= .el (.one (.int .i64))) 10 (fun w8 H=>yD (h0 w8) 0) fun w8 H=>ay rfl ?_
 refine az.val H (s:= .el (.one (.int .i64))) 10 (fun w9 H=>yD (hz H) 0) fun w9 H=>ay rfl ?_
 exact az.val H (s:= .el (.one .bool)) true (fun lE _=>yB lE) fun lE H=>aj.go H fun mh H=>⟨rfl,H.all⟩
end Go.Proofs.YtdnoecpjcoibmaaGreat
namespace Go.Proofs.YtdnoecpjcoibmaaGreat
set_option maxRecDepth 100000
open Go.RX D
def o7:Nat->aQ:=(fun|6=>[(7,Go.RX.El.one (Go.RX.Sc.int Go.IntKind.i64))]|19=>[(14,Go.RX.El.one (Go.RX.Sc.int Go.IntKind.i64))]| _=>[])
theorem HF (p:Option Addr) (m c:Nat) (v:Int) (w:World) (Post:Bool->World->Prop):(aH Y0 o7 4 [.slice p m c,.int .u64 v] w Post)=(
 az Tryz.prog 12 (.bq [.one .ptr,.one (.int .i64)]) [.int .i64 200] w fun(x:Option Addr×Int×Unit) w2=>aB (x.2.1 != 0||x.1.isNone||decide ((↑m:Int)>12)) (aB (x.2.1==0&& !x.1.isNone) (az Tryz.prog 18 (.el (.one .bool)) [] w2 fun x w2=>aj w2 fun w1=>Post x w1) (aj w2 fun w1=>Post false w1)) (az Tryz.prog 14 (.el (.agg [.int .u64,.int .i64])) [.pointer x.1,.int .i64 0,.agg ⟨[.int .i64 1,.int .u64 0,.int .u64 0,.int .u64 0]⟩] w2 fun(x_1:Int×Int×Unit) w2=> ∃(I:Nat->Int×Unit->World->Prop),(∃n, ∀w1,Ext w2 w1->I n (0,Unit.unit) w1)/\ ∀(n
 :Nat) (s:Int×Unit) (w1:World),I n s w1->aB (decide (s.1<(↑m:Int))) ((p.isSome=true/\0<=s.1/\s.1<(↑m:Int))/\ag w1 none (af p (Int.toNat s.1*1)) (.one (.int .u16)) fun(x_2:Int)=>az Tryz.prog 14 (.el (.agg [.int .u64,.int .i64])) [.pointer x.1,.int .i64 1,.agg ⟨[.int .i64 3,.int .u64 (ax .u64 x_2),.int .u64 3,.int .u64 0]⟩] w1 fun(x_3:Int×Int×Unit) w2=>aA w2 ⟨[.int .u64 0,.int .i64 0]⟩ 35 fun b w2=>av w2 (some ⟨b,0,none⟩) [.int .u64 x_3.1,.int .i64 x_3.2.1] fun w2=>az Tryz.prog 14 (.el (.agg [.int .u64,.int .i64])) [.pointer x.1,
 .int .i64 1,.agg ⟨[.int .i64 6,.int .u64 (au .u64 (b_ .u64 16 (ax .u64 x_2)) 3),.int .u64 0,.int .u64 0]⟩] w2 fun(x_4:Int×Int×Unit) w2=>aA w2 ⟨[.int .u64 0,.int .i64 0]⟩ 35 fun b_1 w2=>av w2 (some ⟨b_1,0,none⟩) [.int .u64 x_4.1,.int .i64 x_4.2.1] fun w2=>true=true/\ag w2 none (af (some ⟨b,0,none⟩) 1) (.one (.int .i64)) fun(x_5:Int)=>ag w2 (some (x_5==0)) (some ⟨b_1,0,none⟩) (.agg [.int .u64,.int .i64]) fun(x_6:Int×Int×Unit)=>((!(x_5==0&& !(x_6.1==0&&(x_6.2.1==0&&true))))=true->true=true)/\ag w2 (some !(x_5==0&&
 !(x_6.1==0&&(x_6.2.1==0&&true)))) (af (some ⟨b,0,none⟩) 1) (.one (.int .i64)) fun(x_7:Int)=>((!(x_5==0&& !(x_6.1==0&&(x_6.2.1==0&&true)))&&x_7 != 0)=true->true=true)/\ag w2 (some (!(x_5==0&& !(x_6.1==0&&(x_6.2.1==0&&true)))&&x_7 != 0)) (af (some ⟨b,0,none⟩) 1) (.one (.int .i64)) fun(x_8:Int)=>aB (x_5==0&& !(x_6.1==0&&(x_6.2.1==0&&true))||x_7 != 0&&x_8 != 5) (aj w2 fun w1=>Post false w1) (az Tryz.prog 14 (.el (.agg [.int .u64,.int .i64])) [.pointer x.1,.int .i64 1,.agg ⟨[.int .i64 7,.int .u64 (au .u64 (b_
 .u64 16 (ax .u64 x_2)) 3),.int .u64 (au .u64 v (ax .u64 x_2)),.int .u64 0]⟩] w2 fun(x_9:Int×Int×Unit) w2=>aA w2 ⟨[.int .u64 0,.int .i64 0]⟩ 35 fun b w2=>av w2 (some ⟨b,0,none⟩) [.int .u64 x_9.1,.int .i64 x_9.2.1] fun w2=>az Tryz.prog 14 (.el (.agg [.int .u64,.int .i64])) [.pointer x.1,.int .i64 1,.agg ⟨[.int .i64 6,.int .u64 (au .u64 (b_ .u64 16 (ax .u64 x_2)) 3),.int .u64 0,.int .u64 0]⟩] w2 fun(x_10:Int×Int×Unit) w2=>aA w2 ⟨[.int .u64 0,.int .i64 0]⟩ 35 fun b_2 w2=>av w2 (some ⟨b_2,0,none⟩) [.int .u64 x_10.1,.int .i64 x_10.2.1] fun
 w2=>az Tryz.prog 14 (.el (.agg [.int .u64,.int .i64])) [.pointer x.1,.int .i64 1,.agg ⟨[.int .i64 6,.int .u64 (au .u64 (b_ .u64 16 (ax .u64 x_2)) 4),.int .u64 0,.int .u64 0]⟩] w2 fun(x:Int×Int×Unit) w2=>aA w2 ⟨[.int .u64 0,.int .i64 0]⟩ 35 fun sN w2=>av w2 (some ⟨sN,0,none⟩) [.int .u64 x.1,.int .i64 x.2.1] fun w2=>true=true/\ag w2 none (af (some ⟨b,0,none⟩) 1) (.one (.int .i64)) fun(x:Int)=>ag w2 (some !x != 0) (some ⟨b_2,0,none⟩) (.agg [.int .u64,.int .i64]) fun(x_11:Int×Int×Unit)=>ag w2 (some !(x != 0|| !(x_11.1==au .u64 v
 (ax .u64 x_2)&&(x_11.2.1==0&&true)))) (some ⟨sN,0,none⟩) (.agg [.int .u64,.int .i64]) fun(x_12:Int×Int×Unit)=>aB (x != 0|| !(x_11.1==au .u64 v (ax .u64 x_2)&&(x_11.2.1==0&&true))|| !(x_12.1==0&&(x_12.2.1==0&&true))) (aj w2 fun w1=>Post false w1) (∀w3,Ext w2 w3-> ∃(n':Nat),n'<n/\I n' (au .i64 s.1 1,Unit.unit) w3))) (∃(I:Nat->Int×Unit->World->Prop),(∃n, ∀cQ,Ext w1 cQ->I n (0,Unit.unit) cQ)/\ ∀(n:Nat) (s:Int×Unit) (w1:World),I n s w1->aB (decide (s.1<(↑m:Int))) ((p.isSome=true/\0<=s.1/\s.1<(↑m
 :Int))/\ag w1 none (af p (Int.toNat s.1*1)) (.one (.int .u16)) fun(x_2:Int)=>az Tryz.prog 14 (.el (.agg [.int .u64,.int .i64])) [.pointer x.1,.int .i64 1,.agg ⟨[.int .i64 6,.int .u64 (au .u64 (b_ .u64 16 (ax .u64 x_2)) 3),.int .u64 0,.int .u64 0]⟩] w1 fun(x:Int×Int×Unit) w2=>aA w2 ⟨[.int .u64 0,.int .i64 0]⟩ 35 fun b w2=>av w2 (some ⟨b,0,none⟩) [.int .u64 x.1,.int .i64 x.2.1] fun w2=>ag w2 none (some ⟨b,0,none⟩) (.agg [.int .u64,.int .i64]) fun(x:Int×Int×Unit)=>aB (!(x.1==au .u64 v (ax .u64 x_2)&&(x.2.1==0&&true))) (aj
 w2 fun w1=>Post false w1) (∀w3,Ext w2 w3-> ∃(n':Nat),n'<n/\I n' (au .i64 s.1 1,Unit.unit) w3)) (az Tryz.prog 18 (.el (.one .bool)) [] w1 fun x w2=>aj w2 fun w1=>Post x w1)))):=by kernel_rfl
def o8:Nat->aQ:=(fun|3=>[(5,Go.RX.El.one Go.RX.Sc.slice),(6,Go.RX.El.one (Go.RX.Sc.int Go.IntKind.i64))]|7=>[(5,Go.RX.El.one Go.RX.Sc.slice),(8,Go.RX.El.one (Go.RX.Sc.int Go.IntKind.i64))]|12=>[(10,Go.RX.El.one Go.RX.Sc.bool),(11,Go.RX.El.one (Go.RX.Sc.int Go.IntKind.i64))]| _=>[])
theorem HG (p:Option Addr) (m c:Nat) (n:Int) (w:World) (Post:Option Addr×Nat×Nat->World->Prop):(aH Y0 o8 13 [.slice p m c,.int .i64 n] w Post)=(
 ∃(I:Nat->(Option Addr×Nat×Nat)×Int×Unit->World->Prop),(∃n, ∀w1,Ext w w1->I n ((none,0,0),0,Unit.unit) w1)/\ ∀(n_1:Nat) (s:(Option Addr×Nat×Nat)×Int×Unit) (w1:World),I n_1 s w1->aB (decide (s.2.1<(↑m:Int))&&decide (s.2.1<n)) ((p.isSome=true/\0<=s.2.1/\s.2.1<(↑m:Int))/\(af p (Int.toNat s.2.1*5)).isSome=true/\(af (af p (Int.toNat s.2.1*5)) 1).isSome=true/\ag w1 none (af (af (af p (Int.toNat s.2.1*5)) 1) 1) (.one (.int .u64)) fun(x:Int)=>(p.isSome=true/\0<=s.2.1/\s.2.1<(↑m:Int))/\(af p (Int.toNat
 s.2.1*5)).isSome=true/\(af (af p (Int.toNat s.2.1*5)) 1).isSome=true/\ag w1 none (af (af (af p (Int.toNat s.2.1*5)) 1) 2) (.one (.int .u64)) fun(x_1:Int)=>(p.isSome=true/\0<=s.2.1/\s.2.1<(↑m:Int))/\(af p (Int.toNat s.2.1*5)).isSome=true/\(af (af p (Int.toNat s.2.1*5)) 1).isSome=true/\ag w1 none (af (af (af p (Int.toNat s.2.1*5)) 1) 1) (.one (.int .u64)) fun(x_2:Int)=>aA w1 ⟨[.int .u64 x,.int .u64 x_1,.int .u64 (py .u64 x_2 16)]⟩ 29 fun b w2=> ∃(oA:Nat->(Option Addr×Nat×Nat)×Int×Unit->World->Prop),(∃n, ∀
 w1,Ext w2 w1->oA n ((s.1.1,s.1.2.1,s.1.2.2),0,Unit.unit) w1)/\ ∀(n:Nat) (s_1:(Option Addr×Nat×Nat)×Int×Unit) (w1:World),oA n s_1 w1->aB (decide (s_1.2.1<3)) ((true=true/\0<=s_1.2.1/\s_1.2.1<(↑3:Int))/\ag w1 none (af (some ⟨b,0,none⟩) (Int.toNat s_1.2.1*1)) (.one (.int .u64)) fun(x:Int)=> ∃(I:Nat->Bool×Int×Unit->World->Prop),(∃n, ∀cQ,Ext w1 cQ->I n (decide (x>65535),0,Unit.unit) cQ)/\ ∀(n_2:Nat) (s:Bool×Int×Unit) (w1:World),I n_2 s w1->aB (decide (s.2.1<(↑s_1.1.2.1:Int))) (((!s.1)=true->
 s_1.1.1.isSome=true/\0<=s.2.1/\s.2.1<(↑s_1.1.2.1:Int))/\ag w1 (some !s.1) (af s_1.1.1 (Int.toNat s.2.1*1)) (.one (.int .i64)) fun(x_3:Int)=> ∀w3,Ext w1 w3-> ∃(n':Nat),n'<n_2/\I n' (s.1||x_3==ax .i64 x,au .i64 s.2.1 1,Unit.unit) w3) (aB (!s.1) (aA w1 ⟨[.int .i64 (ax .i64 x)]⟩ 3 fun b w2=> ∀w1,Ext w2 w1->tV w1 3 1 8 ⟨[.int .i64 0]⟩ (s_1.1.1,s_1.1.2.1,s_1.1.2.2) (some ⟨b,0,none⟩,1,1) fun(r:Option Addr×Nat×Nat) w2=> ∀w3,Ext w2 w3-> ∃(n':Nat),n'<n/\oA n' ((r.1,r.2.1,r.2.2),au .i64 s_1.2.1 1,Unit.unit) w3) (∀w3,Ext w1
 w3-> ∃(n':Nat),n'<n/\oA n' ((s_1.1.1,s_1.1.2.1,s_1.1.2.2),au .i64 s_1.2.1 1,Unit.unit) w3))) (∀w3,Ext w1 w3-> ∃(n':Nat),n'<n_1/\I n' ((s_1.1.1,s_1.1.2.1,s_1.1.2.2),au .i64 s.2.1 1,Unit.unit) w3)) (aj w1 fun w1=>Post (s.1.1,s.1.2.1,s.1.2.2) w1)):=by kernel_rfl
end Go.Proofs.YtdnoecpjcoibmaaGreat
namespace Go.Proofs.YtdnoecpjcoibmaaGreat
set_option maxRecDepth 100000
open Go.RX D
theorem Dx (x0 x1 v0 v1 t:Int) (w:World) (Post:Bool->World->Prop):(aH Y0 (fun _=>[]) 5 [.agg ⟨[.int .u16 x0,.int .u16 x1]⟩,.agg ⟨[.int .u64 v0,.int .u64 v1]⟩,.int .u8 t] w Post)=(
 aA w ⟨[.int .u16 x0,.int .u16 x1]⟩ 46 fun b w2=>aA w2 ⟨[.int .u64 v0,.int .u64 v1]⟩ 47 fun b_1 w2=>az Tryz.prog 12 (.bq [.one .ptr,.one (.int .i64)]) [.int .i64 60] w2 fun(x:Option Addr×Int×Unit) w2=>aB (x.2.1 != 0||x.1.isNone) (aj w2 fun w1=>Post false w1) ((true=true/\(0:Int)<=0/\0<(↑2:Int))/\ag w2 none (af (some ⟨b,0,none⟩) 0) (.one (.int .u16)) fun(x_1:Int)=>(true=true/\(0:Int)<=1/\1<(↑2:Int))/\ag w2 none (af (some ⟨b,0,none⟩) 1) (.one (.int .u16)) fun(x_2:Int)=>az Tryz.prog 14 (.el (.agg [.int .u64,.int .i64]))
 [.pointer x.1,.int .i64 0,.agg ⟨[.int .i64 1,.int .u64 0,.int .u64 0,.int .u64 0]⟩] w2 fun(x_3:Int×Int×Unit) w2=>az Tryz.prog 14 (.el (.agg [.int .u64,.int .i64])) [.pointer x.1,.int .i64 0,.agg ⟨[.int .i64 1,.int .u64 0,.int .u64 0,.int .u64 0]⟩] w2 fun(x_4:Int×Int×Unit) w2=>az Tryz.prog 14 (.el (.agg [.int .u64,.int .i64])) [.pointer x.1,.int .i64 1,.agg ⟨[.int .i64 3,.int .u64 (ax .u64 x_1),.int .u64 3,.int .u64 0]⟩] w2 fun(x_5:Int×Int×Unit) w2=>aA w2 ⟨[.int .u64 0,.int .i64 0]⟩ 35 fun b w2=>av w2 (some ⟨b,0,none⟩) [.int .u64 x_5.1,
 .int .i64 x_5.2.1] fun w2=>az Tryz.prog 14 (.el (.agg [.int .u64,.int .i64])) [.pointer x.1,.int .i64 1,.agg ⟨[.int .i64 8,.int .u64 (ax .u64 x_1),.int .u64 2,.int .u64 1]⟩] w2 fun(x_6:Int×Int×Unit) w2=>aA w2 ⟨[.int .u64 0,.int .i64 0]⟩ 35 fun b_2 w2=>av w2 (some ⟨b_2,0,none⟩) [.int .u64 x_6.1,.int .i64 x_6.2.1] fun w2=>true=true/\ag w2 none (af (some ⟨b_2,0,none⟩) 0) (.one (.int .u64)) fun(x_7:Int)=>az Tryz.prog 14 (.el (.agg [.int .u64,.int .i64])) [.pointer x.1,.int .i64 2,.agg ⟨[.int .i64 9,.int .u64 x_7,.int .u64 (ax .u64 x_2),.int
 .u64 1]⟩] w2 fun(x_8:Int×Int×Unit) w2=>aA w2 ⟨[.int .u64 0,.int .i64 0]⟩ 35 fun sN w2=>av w2 (some ⟨sN,0,none⟩) [.int .u64 x_8.1,.int .i64 x_8.2.1] fun w2=>(true=true/\(0:Int)<=0/\0<(↑2:Int))/\ag w2 none (af (some ⟨b_1,0,none⟩) 0) (.one (.int .u64)) fun(x_9:Int)=>az Tryz.prog 14 (.el (.agg [.int .u64,.int .i64])) [.pointer x.1,.int .i64 2,.agg ⟨[.int .i64 7,.int .u64 (au .u64 (b_ .u64 16 (ax .u64 x_2)) (dM (ax .u64 t) 16)),.int .u64 x_9,.int .u64 0]⟩] w2 fun(x_10:Int×Int×Unit) w2=>az Tryz.prog 14 (.el (.agg [.int .u64,
 .int .i64])) [.pointer x.1,.int .i64 1,.agg ⟨[.int .i64 6,.int .u64 (au .u64 (b_ .u64 16 (ax .u64 x_1)) (dM (ax .u64 t) 16)),.int .u64 0,.int .u64 0]⟩] w2 fun(x_11:Int×Int×Unit) w2=>aA w2 ⟨[.int .u64 0,.int .i64 0]⟩ 35 fun BK w2=>av w2 (some ⟨BK,0,none⟩) [.int .u64 x_11.1,.int .i64 x_11.2.1] fun w2=>(true=true/\(0:Int)<=1/\1<(↑2:Int))/\ag w2 none (af (some ⟨b_1,0,none⟩) 1) (.one (.int .u64)) fun(x_12:Int)=>az Tryz.prog 14 (.el (.agg [.int .u64,.int .i64])) [.pointer x.1,.int .i64 1,.agg ⟨[.int .i64 7,.int .u64 (au .u64 (b_
 .u64 16 (ax .u64 x_1)) (dM (ax .u64 t) 16)),.int .u64 x_12,.int .u64 0]⟩] w2 fun(x_13:Int×Int×Unit) w2=>az Tryz.prog 14 (.el (.agg [.int .u64,.int .i64])) [.pointer x.1,.int .i64 2,.agg ⟨[.int .i64 6,.int .u64 (au .u64 (b_ .u64 16 (ax .u64 x_2)) (dM (ax .u64 t) 16)),.int .u64 0,.int .u64 0]⟩] w2 fun(x_14:Int×Int×Unit) w2=>aA w2 ⟨[.int .u64 0,.int .i64 0]⟩ 35 fun SF w2=>av w2 (some ⟨SF,0,none⟩) [.int .u64 x_14.1,.int .i64 x_14.2.1] fun w2=>az Tryz.prog 14 (.el (.agg [.int .u64,.int .i64])) [.pointer x.1,.int .i64 2,.agg ⟨[.int .i64
 10,.int .u64 (ax .u64 x_2),.int .u64 0,.int .u64 0]⟩] w2 fun(x_15:Int×Int×Unit) w2=>aA w2 ⟨[.int .u64 0,.int .i64 0]⟩ 35 fun Th w2=>av w2 (some ⟨Th,0,none⟩) [.int .u64 x_15.1,.int .i64 x_15.2.1] fun w2=>az Tryz.prog 14 (.el (.agg [.int .u64,.int .i64])) [.pointer x.1,.int .i64 2,.agg ⟨[.int .i64 6,.int .u64 (au .u64 (b_ .u64 16 (ax .u64 x_2)) (dM (ax .u64 t) 16)),.int .u64 0,.int .u64 0]⟩] w2 fun(x_16:Int×Int×Unit) w2=>aA w2 ⟨[.int .u64 0,.int .i64 0]⟩ 35 fun Ti w2=>av w2 (some ⟨Ti,0,none⟩) [.int .u64 x_16.1,.int .i64 x_16.2.1]
 fun w2=>az Tryz.prog 14 (.el (.agg [.int .u64,.int .i64])) [.pointer x.1,.int .i64 1,.agg {toList:=[.int .i64 6,.int .u64 (au .u64 (b_ .u64 16 (ax .u64 x_1)) (dM (ax .u64 t) 16)),.int .u64 0,.int .u64 0]}] w2 fun(x:Int×Int×Unit) w2=>aA w2 ⟨[.int .u64 0,.int .i64 0]⟩ 35 fun Tj w2=>av w2 (some ⟨Tj,0,none⟩) [.int .u64 x.1,.int .i64 x.2.1] fun w2=>true=true/\ag w2 none (af (some ⟨b,0,none⟩) 1) (.one (.int .i64)) fun(x:Int)=>((x==0)=true->true=true)/\ag w2 (some (x==0)) (af (some ⟨b_2,0,none⟩) 1) (.one (.int .i64)) fun(x_17
 :Int)=>((x==0&&x_17==0)=true->true=true)/\ag w2 (some (x==0&&x_17==0)) (af (some ⟨sN,0,none⟩) 1) (.one (.int .i64)) fun(x_18:Int)=>ag w2 (some (x==0&&x_17==0&&x_18==0)) (some ⟨BK,0,none⟩) (.agg [.int .u64,.int .i64]) fun(x_19:Int×Int×Unit)=>((x==0&&x_17==0&&x_18==0)=true->true=true/\(0:Int)<=0/\0<(↑2:Int))/\ag w2 (some (x==0&&x_17==0&&x_18==0)) (af (some ⟨b_1,0,none⟩) 0) (.one (.int .u64)) fun(x_20:Int)=>ag w2 (some (x==0&&x_17==0&&x_18==0&&(x_19.1==x_20&&(x_19.2.1==0&&
 true)))) (some ⟨SF,0,none⟩) (.agg [.int .u64,.int .i64]) fun(x_21:Int×Int×Unit)=>((x==0&&x_17==0&&x_18==0&&(x_19.1==x_20&&(x_19.2.1==0&&true)))=true->true=true/\(0:Int)<=1/\1<(↑2:Int))/\ag w2 (some (x==0&&x_17==0&&x_18==0&&(x_19.1==x_20&&(x_19.2.1==0&&true)))) (af (some ⟨b_1,0,none⟩) 1) (.one (.int .u64)) fun(x_22:Int)=>((x==0&&x_17==0&&x_18==0&&(x_19.1==x_20&&(x_19.2.1==0&&true))&&(x_21.1==x_22&&(x_21.2.1==0&&true)))=true->true=true)/\ag w2 (some (x==0&&x_17==0&&x_18==
 0&&(x_19.1==x_20&&(x_19.2.1==0&&true))&&(x_21.1==x_22&&(x_21.2.1==0&&true)))) (af (some ⟨Th,0,none⟩) 1) (.one (.int .i64)) fun(x_23:Int)=>((x==0&&x_17==0&&x_18==0&&(x_19.1==x_20&&(x_19.2.1==0&&true))&&(x_21.1==x_22&&(x_21.2.1==0&&true))&&x_23==0)=true->true=true)/\ag w2 (some (x==0&&x_17==0&&x_18==0&&(x_19.1==x_20&&(x_19.2.1==0&&true))&&(x_21.1==x_22&&(x_21.2.1==0&&true))&&x_23==0)) (af (some ⟨Ti,0,none⟩) 1) (.one (.int .i64)) fun(x_24:Int)=>ag w2 (some (x==0&&x_17==0&&
 x_18==0&&(x_19.1==x_20&&(x_19.2.1==0&&true))&&(x_21.1==x_22&&(x_21.2.1==0&&true))&&x_23==0&&x_24==4)) (some ⟨Tj,0,none⟩) (.agg [.int .u64,.int .i64]) fun(x_25:Int×Int×Unit)=>ag w2 (some (x==0&&x_17==0&&x_18==0&&(x_19.1==x_20&&(x_19.2.1==0&&true))&&(x_21.1==x_22&&(x_21.2.1==0&&true))&&x_23==0&&x_24==4)) (some ⟨SF,0,none⟩) (.agg [.int .u64,.int .i64]) fun(dN:Int×Int×Unit)=>aB (x==0&&x_17==0&&x_18==0&&(x_19.1==x_20&&(x_19.2.1==0&&true))&&(x_21.1==x_22&&(x_21.2.1==0&&
 true))&&x_23==0&&x_24==4&&(x_25.1==dN.1&&(x_25.2.1==dN.2.1&&true))) (az Tryz.prog 18 (.el (.one .bool)) [] w2 fun x w2=>aj w2 fun w1=>Post x w1) (aj w2 fun w1=>Post false w1))):=by kernel_rfl
def nO:Nat->aQ:=(fun|6=>[(6,Go.RX.El.one (Go.RX.Sc.int Go.IntKind.i64))]| _=>[])
theorem Dy (p:Option Addr) (m c:Nat) (w:World) (Post:Bool->World->Prop):(aH Y0 nO 7 [.slice p m c] w Post)=(
 az Tryz.prog 12 (.bq [.one .ptr,.one (.int .i64)]) [.int .i64 120] w fun(x:Option Addr×Int×Unit) w2=>aB (x.2.1 != 0||x.1.isNone) (aj w2 fun w1=>Post false w1) (az Tryz.prog 14 (.el (.agg [.int .u64,.int .i64])) [.pointer x.1,.int .i64 0,.agg ⟨[.int .i64 1,.int .u64 0,.int .u64 0,.int .u64 0]⟩] w2 fun(x_1:Int×Int×Unit) w2=>aA w2 ⟨[.int .u64 0,.int .i64 0]⟩ 35 fun b w2=>av w2 (some ⟨b,0,none⟩) [.int .u64 x_1.1,.int .i64 x_1.2.1] fun w2=> ∃(I:Nat->Int×Unit->World->Prop),(∃n, ∀w1,Ext w2 w1->I n (0,Unit.unit) w1)/\ ∀(n:Nat) (s:Int×
 Unit) (w1:World),I n s w1->aB (decide (s.1<(↑m:Int))&&decide (s.1<40)) ((p.isSome=true/\0<=s.1/\s.1<(↑m:Int))/\(af p (Int.toNat s.1*5)).isSome=true/\ag w1 none (af (af p (Int.toNat s.1*5)) 0) (.one (.int .i64)) fun(x_2:Int)=>aB (decide (x_2>0)) ((p.isSome=true/\0<=s.1/\s.1<(↑m:Int))/\(af p (Int.toNat s.1*5)).isSome=true/\ag w1 none (af (af p (Int.toNat s.1*5)) 1) (.agg [.int .i64,.int .u64,.int .u64,.int .u64]) fun(x_3:Int×Int×Int×Int×Unit)=>az Tryz.prog 14 (.el (.agg [.int .u64,.int .i64])) [.pointer x.1,
 .int .i64 1,.agg ⟨[.int .i64 x_3.1,.int .u64 x_3.2.1,.int .u64 x_3.2.2.1,.int .u64 x_3.2.2.2.1]⟩] w1 fun(x:Int×Int×Unit) w2=> ∀w3,Ext w2 w3-> ∃(n':Nat),n'<n/\I n' (au .i64 s.1 1,Unit.unit) w3) (∀w3,Ext w1 w3-> ∃(n':Nat),n'<n/\I n' (au .i64 s.1 1,Unit.unit) w3)) (az Tryz.prog 14 (.el (.agg [.int .u64,.int .i64])) [.pointer x.1,.int .i64 0,.agg ⟨[.int .i64 2,.int .u64 1,.int .u64 0,.int .u64 0]⟩] w1 fun(x_2:Int×Int×Unit) w2=>aA w2 ⟨[.int .u64 0,.int .i64 0]⟩ 35 fun b_1 w2=>av w2 (some ⟨b_1,0,none⟩) [.int .u64 x_2.1,.int .i64 x_2.2.1]
 fun w2=>az Tryz.prog 14 (.el (.agg [.int .u64,.int .i64])) [.pointer x.1,.int .i64 0,.agg ⟨[.int .i64 17,.int .u64 0,.int .u64 0,.int .u64 0]⟩] w2 fun(x_3:Int×Int×Unit) w2=>true=true/\ag w2 none (af (some ⟨b,0,none⟩) 0) (.one (.int .u64)) fun(x_4:Int)=>((x_4==1)=true->true=true)/\ag w2 (some (x_4==1)) (af (some ⟨b_1,0,none⟩) 1) (.one (.int .i64)) fun(x_5:Int)=> ∃x_6,((x_4==1&&x_5==0)=true->ah Tryz.prog 16 [.pointer x.1,.int .i64 1] w2 (.bool x_6))/\aB (x_4==1&&x_5==0&& !x_6) (az Tryz.prog 19 (.el (.one .ptr))
 [.pointer x.1] w2 fun x w2=>az Tryz.prog 20 (.el (.one (.int .i64))) [.pointer x,.int .i64 0] w2 fun(x:Int) w2=>aB (x==120) (az Tryz.prog 18 (.el (.one .bool)) [] w2 fun x w2=>aj w2 fun w1=>Post x w1) (aj w2 fun w1=>Post false w1)) (aj w2 fun w1=>Post false w1)))):=by kernel_rfl
def o9:Nat->aQ:=(fun|6=>[(8,Go.RX.El.one (Go.RX.Sc.int Go.IntKind.i64))]|11=>[(10,Go.RX.El.one (Go.RX.Sc.int Go.IntKind.i64))]|15=>[(14,Go.RX.El.one (Go.RX.Sc.int Go.IntKind.i64))]|18=>[(15,Go.RX.El.one (Go.RX.Sc.int Go.IntKind.i64))]| _=>[])
theorem HJ (n:Int) (p:Option Addr) (m c:Nat) (w:World) (Post:Bool->World->Prop):(aH Y0 o9 3 [.int .u8 n,.slice p m c] w Post)=(
 az Tryz.prog 12 (.bq [.one .ptr,.one (.int .i64)]) [.int .i64 (au .i64 30 (dM (ax .i64 n) 60))] w fun(x:Option Addr×Int×Unit) w2=>aB (x.2.1 != 0||x.1.isNone) (aj w2 fun w1=>Post false w1) (az Tryz.prog 13 (.el (.one .slice)) [.slice p m c,.int .i64 40] w2 fun x_1 w2=> ∃(I:Nat->Int×Unit->World->Prop),(∃n, ∀w1,Ext w2 w1->I n (0,Unit.unit) w1)/\ ∀(n:Nat) (s:Int×Unit) (w1:World),I n s w1->aB (decide (s.1<(↑m:Int))&&decide (s.1<40)) ((p.isSome=true/\0<=s.1/\s.1<(↑m:Int))/\ag w1 none (af p (Int.toNat s.1*5)) (.agg [.int
 .i64,.int .i64,.int .u64,.int .u64,.int .u64]) fun(x_2:Int×Int×Int×Int×Int×Unit)=>aA w1 ⟨[.int .i64 0,.int .i64 0,.int .u64 0,.int .u64 0,.int .u64 0]⟩ 33 fun b w2=>av w2 (some ⟨b,0,none⟩) [.int .i64 x_2.1,.int .i64 x_2.2.1,.int .u64 x_2.2.2.1,.int .u64 x_2.2.2.2.1,.int .u64 x_2.2.2.2.2.1] fun w2=>true=true/\ag w2 none (af (some ⟨b,0,none⟩) 0) (.one (.int .i64)) fun(x_3:Int)=>true=true/\ag w2 none (af (some ⟨b,0,none⟩) 1) (.agg [.int .i64,.int .u64,.int .u64,.int .u64]) fun(x_4:Int×Int×Int×Int×Unit)=>az Tryz.prog 14 (.el
 (.agg [.int .u64,.int .i64])) [.pointer x.1,.int .i64 x_3,.agg ⟨[.int .i64 x_4.1,.int .u64 x_4.2.1,.int .u64 x_4.2.2.1,.int .u64 x_4.2.2.2.1]⟩] w2 fun(x_5:Int×Int×Unit) w2=> ∃(oA:Nat->Int×Unit->World->Prop),(∃n, ∀w1,Ext w2 w1->oA n (0,Unit.unit) w1)/\ ∀(n_1:Nat) (s_1:Int×Unit) (w1:World),oA n_1 s_1 w1->aB (decide (s_1.1<(↑x_1.2.1:Int))) (true=true/\ag w1 none (af (some ⟨b,0,none⟩) 0) (.one (.int .i64)) fun(x_6:Int)=>(x_1.1.isSome=true/\0<=s_1.1/\s_1.1<(↑x_1.2.1:Int))/\ag w1 none (af x_1.1 (Int.toNat s_1.1*1)) (.one
 (.int .i64)) fun(x_7:Int)=>az Tryz.prog 15 (.bq [.one (.int .i64),.one (.int .i64),.one (.int .i64)]) [.pointer x.1,.int .i64 x_6,.int .i64 x_7] w1 fun(x_8:Int×Int×Int×Unit) w2=> ∃(I:Nat->Int×Unit->World->Prop),(∃n, ∀w1,Ext w2 w1->I n (1,Unit.unit) w1)/\ ∀(n:Nat) (s:Int×Unit) (w1:World),I n s w1->aB (decide (s.1<17)&&x_8.2.2.1==0) (∃(Il:Nat->Int×Unit->World->Prop),(∃n, ∀cQ,Ext w1 cQ->Il n (0,Unit.unit) cQ)/\ ∀(n_2:Nat) (s_2:Int×Unit) (w1:World),Il n_2 s_2 w1->(decide (s_2.1<(↑x_1.2.1:Int))=true->true
 =true)/\ag w1 (some (decide (s_2.1<(↑x_1.2.1:Int)))) (af (some ⟨b,0,none⟩) 0) (.one (.int .i64)) fun(x_9:Int)=> ∃x_10,((decide (s_2.1<(↑x_1.2.1:Int))&&s.1 != x_9)=true->ah Tryz.prog 16 [.pointer x.1,.int .i64 s.1] w1 (.bool x_10))/\aB (decide (s_2.1<(↑x_1.2.1:Int))&&s.1 != x_9&&x_10) ((x_1.1.isSome=true/\0<=s_2.1/\s_2.1<(↑x_1.2.1:Int))/\ag w1 none (af x_1.1 (Int.toNat s_2.1*1)) (.one (.int .i64)) fun(x_11:Int)=>az Tryz.prog 15 (.bq [.one (.int .i64),.one (.int .i64),.one (.int .i64)]) [.pointer x.1,.int .i64 s.1,.int .i64
 x_11] w1 fun(x_12:Int×Int×Int×Unit) w2=>((x_12.2.2.1==0&&x_12.1==x_8.1)=true->true=true)/\ag w2 (some (x_12.2.2.1==0&&x_12.1==x_8.1)) (af (some ⟨b,0,none⟩) 0) (.one (.int .i64)) fun(x_13:Int)=> ∃x_14,((x_12.2.2.1==0&&x_12.1==x_8.1)=true->ah Tryz.prog 17 [.pointer x.1,.int .i64 x_13,.int .i64 s.1] w2 (.bool x_14))/\aB (x_12.2.2.1==0&&x_12.1==x_8.1&& !x_14) (aj w2 fun w1=>Post false w1) (∀w3,Ext w2 w3-> ∃(n':Nat),n'<n_2/\Il n' (au .i64 s_2.1 1,Unit.unit) w3)) (∀w3,Ext w1 w3-> ∃(n':Nat),n'<n/\I n' (au .i64
 s.1 1,Unit.unit) w3)) (∀w3,Ext w1 w3-> ∃(n':Nat),n'<n_1/\oA n' (au .i64 s_1.1 1,Unit.unit) w3)) (∀w3,Ext w1 w3-> ∃(n':Nat),n'<n/\I n' (au .i64 s.1 1,Unit.unit) w3)) (az Tryz.prog 18 (.el (.one .bool)) [] w1 fun x w2=>aj w2 fun w1=>Post x w1))):=by kernel_rfl
def o_:Nat->aQ:=(fun|7=>[(9,Go.RX.El.one (Go.RX.Sc.int Go.IntKind.i64))]|16=>[(13,Go.RX.El.one (Go.RX.Sc.int Go.IntKind.i64))]|19=>[(14,Go.RX.El.one (Go.RX.Sc.int Go.IntKind.i64))]|31=>[(22,Go.RX.El.one (Go.RX.Sc.int Go.IntKind.i64))]| _=>[])
theorem HK (n:Int) (p:Option Addr) (m c:Nat) (w:World) (Post:Bool->World->Prop):(aH Y0 o_ 6 [.int .u8 n,.slice p m c] w Post)=(
 az Tryz.prog 12 (.bq [.one .ptr,.one (.int .i64)]) [.int .i64 (au .i64 4 (dM (ax .i64 n) 60))] w fun(x:Option Addr×Int×Unit) w2=>aB (x.2.1 != 0||x.1.isNone) (aj w2 fun w1=>Post false w1) (az Tryz.prog 13 (.el (.one .slice)) [.slice p m c,.int .i64 40] w2 fun x_1 w2=> ∃(I:Nat->Int×Unit->World->Prop),(∃n, ∀w1,Ext w2 w1->I n (0,Unit.unit) w1)/\ ∀(n_1:Nat) (s:Int×Unit) (w1:World),I n_1 s w1->aB (decide (s.1<(↑m:Int))&&decide (s.1<40)) ((p.isSome=true/\0<=s.1/\s.1<(↑m:Int))/\(af p (Int.toNat s.1*5)).isSome=true/\ag w1
 none (af (af p (Int.toNat s.1*5)) 0) (.one (.int .i64)) fun(x_2:Int)=>(p.isSome=true/\0<=s.1/\s.1<(↑m:Int))/\(af p (Int.toNat s.1*5)).isSome=true/\ag w1 none (af (af p (Int.toNat s.1*5)) 1) (.agg [.int .i64,.int .u64,.int .u64,.int .u64]) fun(x_3:Int×Int×Int×Int×Unit)=>az Tryz.prog 14 (.el (.agg [.int .u64,.int .i64])) [.pointer x.1,.int .i64 x_2,.agg ⟨[.int .i64 x_3.1,.int .u64 x_3.2.1,.int .u64 x_3.2.2.1,.int .u64 x_3.2.2.2.1]⟩] w1 fun(x_4:Int×Int×Unit) w2=>az Tryz.prog 19 (.el (.one .ptr)) [.pointer x.1] w2 fun x_5 w2=>
 az Tryz.prog 20 (.el (.one (.int .i64))) [.pointer x_5,.int .i64 0] w2 fun(x_6:Int) w2=>az Tryz.prog 20 (.el (.one (.int .i64))) [.pointer x_5,.int .i64 3] w2 fun(x_7:Int) w2=>az Tryz.prog 20 (.el (.one (.int .i64))) [.pointer x_5,.int .i64 4] w2 fun(x_8:Int) w2=>az Tryz.prog 20 (.el (.one (.int .i64))) [.pointer x_5,.int .i64 5] w2 fun(x_9:Int) w2=>aB (au .i64 (au .i64 (au .i64 x_6 x_7) x_8) x_9 != au .i64 4 (dM (ax .i64 n) 60)) (aj w2 fun w1=>Post false w1) (BF w2 8 1 (au .i64 4 (dM (ax .i64 n) 60)) (au .i64 4 (dM (ax .i64 n) 60))
 ⟨[.int .i64 0]⟩ 3 fun b w2=>BF w2 8 1 (au .i64 4 (dM (ax .i64 n) 60)) (au .i64 4 (dM (ax .i64 n) 60)) ⟨[.int .i64 0]⟩ 3 fun b_1 w2=> ∃(oA:Nat->Int×Unit->World->Prop),(∃n, ∀w1,Ext w2 w1->oA n (1,Unit.unit) w1)/\ ∀(n_2:Nat) (s_1:Int×Unit) (w1:World),oA n_2 s_1 w1->aB (decide (s_1.1<17)) (∃(I:Nat->Int×Unit->World->Prop),(∃n, ∀cQ,Ext w1 cQ->I n (0,Unit.unit) cQ)/\ ∀(MC:Nat) (s:Int×Unit) (w1:World),I MC s w1-> ∃x_10,(decide (s.1<(↑x_1.2.1:Int))=true->ah Tryz.prog 16 [.pointer x.1,.int .i64 s_1.1] w1
 (.bool x_10))/\aB (decide (s.1<(↑x_1.2.1:Int))&&x_10) ((x_1.1.isSome=true/\0<=s.1/\s.1<(↑x_1.2.1:Int))/\ag w1 none (af x_1.1 (Int.toNat s.1*1)) (.one (.int .i64)) fun(x_11:Int)=>az Tryz.prog 15 (.bq [.one (.int .i64),.one (.int .i64),.one (.int .i64)]) [.pointer x.1,.int .i64 s_1.1,.int .i64 x_11] w1 fun(x_12:Int×Int×Int×Unit) w2=>aB (x_12.2.2.1 != 0) (∀w3,Ext w2 w3-> ∃(n':Nat),n'<MC/\I n' (au .i64 s.1 1,Unit.unit) w3) (∃(x_13:(Int×Int×Int×Int×Unit)×Bool×Unit),ah Tryz.prog 21 [.pointer x_5,.int .i64 x_12.1] w2
 (.tuple {toList:=[.agg ⟨[.int .i64 x_13.1.1,.int .i64 x_13.1.2.1,.int .i64 x_13.1.2.2.1,.int .i64 x_13.1.2.2.2.1]⟩,.bool x_13.2.1]})/\aA w2 ⟨[.int .i64 0,.int .i64 0,.int .i64 0,.int .i64 0]⟩ 53 fun b_2 w2=>av w2 (some ⟨b_2,0,none⟩) [.int .i64 x_13.1.1,.int .i64 x_13.1.2.1,.int .i64 x_13.1.2.2.1,.int .i64 x_13.1.2.2.2.1] fun w2=>(x_1.1.isSome=true/\0<=s.1/\s.1<(↑x_1.2.1:Int))/\ag w2 none (af x_1.1 (Int.toNat s.1*1)) (.one (.int .i64)) fun(x_14:Int)=> ∃(x_15:Int×Bool×Unit),ah Tryz.prog 22 [.pointer x.1,.int .i64 s_1.1,.int .i64 x_14] w2
 (.tuple ⟨[.int .i64 x_15.1,.bool x_15.2.1]⟩)/\((!!x_13.2.1)=true->true=true)/\ag w2 (some !!x_13.2.1) (af (some ⟨b_2,0,none⟩) 0) (.one (.int .i64)) fun(x:Int)=>((!(!x_13.2.1||x != 4))=true->true=true)/\ag w2 (some !(!x_13.2.1||x != 4)) (af (some ⟨b_2,0,none⟩) 1) (.one (.int .i64)) fun(x_16:Int)=>aB (!x_13.2.1||x != 4||(x_16==s_1.1)==x_15.2.1) (aj w2 fun w1=>Post false w1) (aB x_15.2.1 ((true=true/\0<=x_12.1/\x_12.1<(↑(au .i64 4 (dM (ax .i64 n) 60)).toNat:Int))/\ag w2 none (af (some ⟨b,0,none⟩) (Int.toNat x_12.1*1))
 (.one (.int .i64)) fun(x:Int)=>(true=true/\0<=x_12.1/\x_12.1<(↑(au .i64 4 (dM (ax .i64 n) 60)).toNat:Int))/\av w2 (af (some ⟨b,0,none⟩) (Int.toNat x_12.1*1)) [.int .i64 (au .i64 x 1)] fun w2=> ∀w3,Ext w2 w3-> ∃(n':Nat),n'<MC/\I n' (au .i64 s.1 1,Unit.unit) w3) ((true=true/\0<=x_12.1/\x_12.1<(↑(au .i64 4 (dM (ax .i64 n) 60)).toNat:Int))/\ag w2 none (af (some ⟨b_1,0,none⟩) (Int.toNat x_12.1*1)) (.one (.int .i64)) fun(x:Int)=>(true=true/\0<=x_12.1/\x_12.1<(↑(au .i64 4 (dM (ax .i64 n) 60)).toNat:Int))/\av
 w2 (af (some ⟨b_1,0,none⟩) (Int.toNat x_12.1*1)) [.int .i64 (au .i64 x 1)] fun w2=> ∀w3,Ext w2 w3-> ∃(n':Nat),n'<MC/\I n' (au .i64 s.1 1,Unit.unit) w3)))) (∀w3,Ext w1 w3-> ∃(n':Nat),n'<n_2/\oA n' (au .i64 s_1.1 1,Unit.unit) w3)) (∃(Il:Nat->Int×Unit->World->Prop),(∃n, ∀cQ,Ext w1 cQ->Il n (0,Unit.unit) cQ)/\ ∀(MC:Nat) (s_2:Int×Unit) (w1:World),Il MC s_2 w1->aB (decide (s_2.1<au .i64 4 (dM (ax .i64 n) 60))) (∃(x:(Int×Int×Int×Int×Unit)×Bool×Unit),ah Tryz.prog 21 [.pointer x_5,.int .i64 s_2.1] w1
 (.tuple {toList:=[.agg ⟨[.int .i64 x.1.1,.int .i64 x.1.2.1,.int .i64 x.1.2.2.1,.int .i64 x.1.2.2.2.1]⟩,.bool x.2.1]})/\aA w1 ⟨[.int .i64 0,.int .i64 0,.int .i64 0,.int .i64 0]⟩ 53 fun b_2 w2=>av w2 (some ⟨b_2,0,none⟩) [.int .i64 x.1.1,.int .i64 x.1.2.1,.int .i64 x.1.2.2.1,.int .i64 x.1.2.2.2.1] fun w2=>(true=true/\0<=s_2.1/\s_2.1<(↑(au .i64 4 (dM (ax .i64 n) 60)).toNat:Int))/\ag w2 none (af (some ⟨b,0,none⟩) (Int.toNat s_2.1*1)) (.one (.int .i64)) fun(x:Int)=>true=true/\ag w2 none (af (some ⟨b_2,0,none⟩) 2) (.one (.int .i64)) fun
 (x_10:Int)=>((!x != x_10)=true->true=true/\0<=s_2.1/\s_2.1<(↑(au .i64 4 (dM (ax .i64 n) 60)).toNat:Int))/\ag w2 (some !x != x_10) (af (some ⟨b_1,0,none⟩) (Int.toNat s_2.1*1)) (.one (.int .i64)) fun(x_11:Int)=>((!(x != x_10||decide (x_11>1)))=true->true=true)/\ag w2 (some !(x != x_10||decide (x_11>1))) (af (some ⟨b_2,0,none⟩) 0) (.one (.int .i64)) fun(x_12:Int)=>((!(x != x_10||decide (x_11>1))&&x_12==4)=true->true=true/\0<=s_2.1/\s_2.1<(↑(au .i64 4 (dM (ax .i64 n) 60)).toNat:Int))/\ag w2 (some (!(x != x_10
 ||decide (x_11>1))&&x_12==4)) (af (some ⟨b_1,0,none⟩) (Int.toNat s_2.1*1)) (.one (.int .i64)) fun(x_13:Int)=>aB (x != x_10||decide (x_11>1)||x_12==4&&x_13 != 1) (aj w2 fun w1=>Post false w1) (∀w3,Ext w2 w3-> ∃(n':Nat),n'<MC/\Il n' (au .i64 s_2.1 1,Unit.unit) w3)) (∀w3,Ext w1 w3-> ∃(n':Nat),n'<n_1/\I n' (au .i64 s.1 1,Unit.unit) w3)))) (az Tryz.prog 18 (.el (.one .bool)) [] w1 fun x w2=>aj w2 fun w1=>Post x w1))):=by kernel_rfl
def ph:Nat->aQ:=(fun|6=>[(8,Go.RX.El.one (Go.RX.Sc.int Go.IntKind.i64))]|13=>[(12,Go.RX.El.one Go.RX.Sc.slice),(13,Go.RX.El.one (Go.RX.Sc.int Go.IntKind.i64))]|24=>[(20,Go.RX.El.one (Go.RX.Sc.int Go.IntKind.i64))]|31=>[(25,Go.RX.El.one (Go.RX.Sc.int Go.IntKind.i64))]| _=>[])
theorem HL (n:Int) (p:Option Addr) (m c:Nat) (w:World) (Post:Bool->World->Prop):(aH Y0 ph 10 [.int .u8 n,.slice p m c] w Post)=(
 az Tryz.prog 12 (.bq [.one .ptr,.one (.int .i64)]) [.int .i64 (au .i64 4 (dM (ax .i64 n) 30))] w fun(x:Option Addr×Int×Unit) w2=>aB (x.2.1 != 0||x.1.isNone) (aj w2 fun w1=>Post false w1) (az Tryz.prog 13 (.el (.one .slice)) [.slice p m c,.int .i64 40] w2 fun x_1 w2=> ∃(I:Nat->Int×Unit->World->Prop),(∃n, ∀w1,Ext w2 w1->I n (0,Unit.unit) w1)/\ ∀(n:Nat) (s:Int×Unit) (w1:World),I n s w1->aB (decide (s.1<(↑m:Int))&&decide (s.1<40)) ((p.isSome=true/\0<=s.1/\s.1<(↑m:Int))/\ag w1 none (af p (Int.toNat s.1*5)) (.agg [.int
 .i64,.int .i64,.int .u64,.int .u64,.int .u64]) fun(x_2:Int×Int×Int×Int×Int×Unit)=>aA w1 ⟨[.int .i64 0,.int .i64 0,.int .u64 0,.int .u64 0,.int .u64 0]⟩ 33 fun b w2=>av w2 (some ⟨b,0,none⟩) [.int .i64 x_2.1,.int .i64 x_2.2.1,.int .u64 x_2.2.2.1,.int .u64 x_2.2.2.2.1,.int .u64 x_2.2.2.2.2.1] fun w2=>az Tryz.prog 26 (.el (.one .ptr)) [.pointer x.1] w2 fun x_3 w2=>az Tryz.prog 38 (.el (.one .ptr)) [.pointer x_3] w2 fun x_4 w2=>az Tryz.prog 19 (.el (.one .ptr)) [.pointer x.1] w2 fun x_5 w2=> ∃(oA:Nat->(Option Addr×Nat×Nat)×Int×Unit->World->
 Prop),(∃n, ∀w1,Ext w2 w1->oA n ((none,0,0),0,Unit.unit) w1)/\ ∀(n_1:Nat) (s_1:(Option Addr×Nat×Nat)×Int×Unit) (w1:World),oA n_1 s_1 w1->aB (decide (s_1.2.1<(↑x_1.2.1:Int))) (true=true/\ag w1 none (af (some ⟨b,0,none⟩) 0) (.one (.int .i64)) fun(x_6:Int)=>(x_1.1.isSome=true/\0<=s_1.2.1/\s_1.2.1<(↑x_1.2.1:Int))/\ag w1 none (af x_1.1 (Int.toNat s_1.2.1*1)) (.one (.int .i64)) fun(x_7:Int)=>az Tryz.prog 15 (.bq [.one (.int .i64),.one (.int .i64),.one (.int .i64)]) [.pointer x.1,.int .i64 x_6,.int .i64 x_7] w1 fun(x:Int×Int
 ×Int×Unit) w2=>aA w2 ⟨[.int .i64 (au .i64 (b_ .i64 8 x.1) x.2.1)]⟩ 3 fun b w2=> ∀w1,Ext w2 w1->tV w1 3 1 8 ⟨[.int .i64 0]⟩ (s_1.1.1,s_1.1.2.1,s_1.1.2.2) (some ⟨b,0,none⟩,1,1) fun(r:Option Addr×Nat×Nat) w2=> ∀w3,Ext w2 w3-> ∃(n':Nat),n'<n_1/\oA n' ((r.1,r.2.1,r.2.2),au .i64 s_1.2.1 1,Unit.unit) w3) (true=true/\ag w1 none (af (some ⟨b,0,none⟩) 0) (.one (.int .i64)) fun(x_6:Int)=>true=true/\ag w1 none (af (some ⟨b,0,none⟩) 1) (.agg [.int .i64,.int .u64,.int .u64,.int .u64]) fun(x_7:Int×Int×Int×Int×Unit)=>az
 Tryz.prog 14 (.el (.agg [.int .u64,.int .i64])) [.pointer x.1,.int .i64 x_6,.agg ⟨[.int .i64 x_7.1,.int .u64 x_7.2.1,.int .u64 x_7.2.2.1,.int .u64 x_7.2.2.2.1]⟩] w1 fun(x_8:Int×Int×Unit) w2=>aA w2 ⟨[.int .u64 0,.int .i64 0]⟩ 35 fun b_1 w2=>av w2 (some ⟨b_1,0,none⟩) [.int .u64 x_8.1,.int .i64 x_8.2.1] fun w2=>true=true/\ag w2 none (af (some ⟨b_1,0,none⟩) 1) (.one (.int .i64)) fun(x_9:Int)=>aB (x_9==0) (∀w3,Ext w2 w3-> ∃(n':Nat),n'<n/\I n' (au .i64 s.1 1,Unit.unit) w3) (az Tryz.prog 26 (.el (.one .ptr)) [.pointer x.1] w2 fun x_10 w2=>true
 =true/\ag w2 none (af (some ⟨b_1,0,none⟩) 0) (.one (.int .u64)) fun(x_11:Int)=> ∃(x_12:Int),((!(x_11 != 0||x_4.isNone||x_5.isNone))=true->ah Tryz.prog 30 [.pointer x_10] w2 (.int .i64 x_12))/\aB (x_11 != 0||x_4.isNone||x_5.isNone) (aj w2 fun w1=>Post false w1) (az Tryz.prog 29 (.el (.one .slice)) [.pointer x_10,.int .i64 0,.int .i64 x_12] w2 fun x_13 w2=> ∃(x_14:Int),ah Tryz.prog 30 [.pointer x_4] w2 (.int .i64 x_14)/\az Tryz.prog 29 (.el (.one .slice)) [.pointer x_4,.int .i64 0,.int .i64 x_14] w2 fun x_15 w2=>az Tryz.prog 28 (.el (.one
 .bool)) [.slice x_13.1 x_13.2.1 x_13.2.2,.slice x_15.1 x_15.2.1 x_15.2.2] w2 fun x_16 w2=>aB (!x_16) (aj w2 fun w1=>Post false w1) (az Tryz.prog 19 (.el (.one .ptr)) [.pointer x.1] w2 fun x_17 w2=> ∃(Il:Nat->Int×Unit->World->Prop),(∃n, ∀w1,Ext w2 w1->Il n (0,Unit.unit) w1)/\ ∀(n_2:Nat) (s_2:Int×Unit) (w1:World),Il n_2 s_2 w1-> ∃(x_18:Int),ah Tryz.prog 39 [.pointer x_5] w1 (.int .i64 x_18)/\aB (decide (s_2.1<x_18)) (∃(x:(Int×Int×Int×Int×Unit)×Bool×Unit),ah Tryz.prog 21 [.pointer x_5,.int .i64 s_2.1] w1 (.tuple {toList:=
 [.agg ⟨[.int .i64 x.1.1,.int .i64 x.1.2.1,.int .i64 x.1.2.2.1,.int .i64 x.1.2.2.2.1]⟩,.bool x.2.1]})/\aA w1 ⟨[.int .i64 0,.int .i64 0,.int .i64 0,.int .i64 0]⟩ 53 fun b w2=>av w2 (some ⟨b,0,none⟩) [.int .i64 x.1.1,.int .i64 x.1.2.1,.int .i64 x.1.2.2.1,.int .i64 x.1.2.2.2.1] fun w2=> ∃(x:(Int×Int×Int×Int×Unit)×Bool×Unit),ah Tryz.prog 21 [.pointer x_17,.int .i64 s_2.1] w2 (.tuple {toList:=[.agg ⟨[.int .i64 x.1.1,.int .i64 x.1.2.1,.int .i64 x.1.2.2.1,.int .i64 x.1.2.2.2.1]⟩,.bool x.2.1]})/\aA w2 ⟨[.int .i64 0,.int .i64 0,.int .i64 0,.int .i64
 0]⟩ 53 fun b_2 w2=>av w2 (some ⟨b_2,0,none⟩) [.int .i64 x.1.1,.int .i64 x.1.2.1,.int .i64 x.1.2.2.1,.int .i64 x.1.2.2.2.1] fun w2=>ag w2 none (some ⟨b,0,none⟩) (.agg [.int .i64,.int .i64,.int .i64,.int .i64]) fun(x:Int×Int×Int×Int×Unit)=>ag w2 none (some ⟨b_2,0,none⟩) (.agg [.int .i64,.int .i64,.int .i64,.int .i64]) fun(x_19:Int×Int×Int×Int×Unit)=>aB (!(x.1==x_19.1&&(x.2.1==x_19.2.1&&(x.2.2.1==x_19.2.2.1&&(x.2.2.2.1==x_19.2.2.2.1&&true))))) (aj w2 fun w1=>Post false w1) (∀w3,Ext w2 w3-> ∃(n':Nat),n'<n_2/\Il n' (au
 .i64 s_2.1 1,Unit.unit) w3)) (∃(Ww:Nat->Int×Unit->World->Prop),(∃n, ∀cQ,Ext w1 cQ->Ww n (0,Unit.unit) cQ)/\ ∀(MC:Nat) (MS:Int×Unit) (w1:World),Ww MC MS w1->aB (decide (MS.1<(↑x_1.2.1:Int))) (true=true/\ag w1 none (af (some ⟨b,0,none⟩) 0) (.one (.int .i64)) fun(x_19:Int)=>(x_1.1.isSome=true/\0<=MS.1/\MS.1<(↑x_1.2.1:Int))/\ag w1 none (af x_1.1 (Int.toNat MS.1*1)) (.one (.int .i64)) fun(x_20:Int)=>az Tryz.prog 15 (.bq [.one (.int .i64),.one (.int .i64),.one (.int .i64)]) [.pointer x.1,.int .i64 x_19,.int .i64
 x_20] w1 fun(x:Int×Int×Int×Unit) w2=>(s_1.1.1.isSome=true/\0<=MS.1/\MS.1<(↑s_1.1.2.1:Int))/\ag w2 none (af s_1.1.1 (Int.toNat MS.1*1)) (.one (.int .i64)) fun(x_21:Int)=>aB (x_21 != au .i64 (b_ .i64 8 x.1) x.2.1) (aj w2 fun w1=>Post false w1) (∀w3,Ext w2 w3-> ∃(n':Nat),n'<MC/\Ww n' (au .i64 MS.1 1,Unit.unit) w3)) (∀w3,Ext w1 w3-> ∃(n':Nat),n'<n/\I n' (au .i64 s.1 1,Unit.unit) w3))))))) (az Tryz.prog 18 (.el (.one .bool)) [] w1 fun x w2=>aj w2 fun w1=>Post x w1))):=by kernel_rfl
end Go.Proofs.YtdnoecpjcoibmaaGreat
namespace Go.Proofs.YtdnoecpjcoibmaaGreat
set_option maxRecDepth 100000
open Go.RX D
def iw (h h':HS):Prop:=h'.s=h.s/\h'.g=h.g
section
variable {gh:Gh} {h:HS} {v k a b c:Int}
theorem iw.refl:iw h h:=⟨rfl,rfl⟩
theorem Mr (H:HI gh h) (hk:1<=k/\k<=17) (hl:qu k=false->aD h.g v=true) (he:(run h v k a b c).2.2≠0):iw h (run h v k a b c).1:=by
 have:k=1\/k=2\/k=3\/k=4\/k=5\/k=6\/k=7\/k=8\/k=9\/k=10\/k=11\/k=12\/k=13\/k=14\/k=15\/k=16\/k=17:=by omega
 rcases this with rfl|rfl|rfl|rfl|rfl|rfl|rfl|rfl|rfl|rfl|rfl|rfl|rfl|rfl|rfl|rfl|rfl
 ·have he:m9 h≠0:=he
  show iw h (gU h)
  unfold m9 at he
  unfold gU
  cases hf:kV h.g with
  |none=>exact .refl
  |some n=>
   rw[hf] at he
   dsimp only at he ⊢
   rw[if_neg he]
   exact .refl
 ·have he:Cb h a≠0:=he
  show iw h (mT h a)
  unfold Cb at he
  unfold mT
  split
  ·rename_i c1
   rw[if_pos c1] at he
   split
   ·exact .refl
   ·rename_i c2
    rw[if_neg c2] at he
    exact absurd rfl he
  ·exact .refl
 ·have he:ju h v a b≠0:=fun e=>he (by show(rT h v a b).2=0;unfold rT;rw[if_pos e])
  show iw h (gQ h v a b)
  rw[H.ze (hl rfl) he];exact .refl
 ·have he:(Ca h v a).2≠0:=he
  show iw h (mM h v a)
  unfold Ca at he
  unfold mM
  split
  ·rename_i c1
   rw[if_pos c1] at he;exact absurd rfl he
  ·exact .refl
 ·have he:oN h v a b≠0:=he
  show iw h (ir h v a b)
  rw[HI.zB he];exact .refl
 ·exact .refl
 ·have he:ni h v a≠0:=he
  show iw h (dS h v a b)
  unfold ni at he
  unfold dS
  split
  ·exact .refl
  rename_i c1
  rw[if_neg c1] at he
  refine⟨?_,rfl⟩
  show(cH h.s.1 _ b,h.s.2)=h.s
  unfold yM at he
  rw[show cH h.s.1 (gT h v a 2).1 b=h.s.1 from if_neg fun e=>he (if_pos e)]
 ·show iw h (fc h v a b c)
  unfold fc
  split
  ·exact⟨rfl,rfl⟩
  ·exact .refl
 ·have he:jv h v a b c≠0:=he
  show iw h (gF h v a b c)
  rw[H.Cu (hl rfl) he];exact .refl
 ·have he:kU h v a≠0:=he
  show iw h (dU h v a)
  rw[zF he];exact .refl
 ·show iw h (fh h v a)
  unfold fh;split
  ·exact .refl
  ·exact⟨rfl,rfl⟩
 ·show iw h (jD h v a)
  unfold jD;split
  ·exact⟨rfl,rfl⟩
  ·exact .refl
 ·show iw h (jE h v a b)
  unfold jE;split
  ·exact .refl
  split
  ·exact⟨rfl,rfl⟩
  ·exact .refl
 ·show iw h (jC h v a)
  unfold jC;split
  ·exact .refl
  ·exact⟨rfl,rfl⟩
 ·exact⟨rfl,rfl⟩
 ·show iw h (gC h v a)
  unfold gC;split
  ·exact .refl
  ·exact⟨rfl,rfl⟩
 ·exact absurd rfl he
theorem HI.fail (H:HI gh h) (he:lH h v k a b c≠0):iw h (g_ h v k a b c)/\qq h v k a b c=0:=by
 unfold lH at he
 unfold g_ qq
 by_cases hp:iu h v k a b c=0
 ·rw[if_pos hp] at he ⊢
  rw[if_pos hp,if_neg he]
  obtain⟨h1,h2, _⟩:=zf hp
  exact⟨Mr H h1 h2 he,rfl⟩
 ·rw[if_neg hp,if_neg hp]
  exact⟨.refl,rfl⟩
end
end Go.Proofs.YtdnoecpjcoibmaaGreat
namespace Go.Proofs.YtdnoecpjcoibmaaGreat
set_option maxRecDepth 100000
open Go.RX D
theorem qN {h:HS} {v:Int} (hl:aD h.g v=true) (p:Int):cL h.g h.s v p=dm h v.toNat p:=by unfold cL dm;rw[if_pos hl];cases h.g v.toNat<;>rfl
theorem iE {g:Nat->Option GV} {v:Int} {x:GV} (hl:aD g v=true) (hx:g v.toNat=some x) (p:Int):dH g v p=match a9 x.tk p with|some y=>(y.1,true,())|none=>(0,false,()):=by
 unfold dH;rw[if_pos hl,hx];dsimp only;cases a9 x.tk p<;>rfl
theorem Bh {g:Nat->Option GV} {v:Int} (hl:aD g v=true): ∃(m:Nat) (x:GV),v=(m:Int)/\1<=m/\m<=16/\g m=some x:=by
 obtain⟨⟨h1,h2⟩,x,hx⟩:=dw.1 hl
 exact⟨v.toNat,x,by omega,by omega,by omega,hx⟩
section
variable {gh fX:Gh} {h:HS}
theorem HI.ES (H:HI gh h) {v:Int} (hl:aD h.g v=true) {a b:Int} (ha:0<=a/\a<65536) (hb:1<=b/\b<=7) (hc:4<=aX h.s.2 0):ju h v a b=if(dm h v.toNat a).2.2.1=0 then 5 else 0:=by
 obtain⟨x,hx,sS,hv,uo,tX⟩:=bG hl
 unfold ju
 rw[if_neg (by omega),if_neg (by omega)]
 obtain⟨n,wU,hn2,t1,t2,t3⟩:=qb (ds:=h.s.2) (o:=v) (by omega) H.inv.fz ⟨uo,tX⟩
 rw[if_neg (fun e=>e t2)]
 have hF:gy h v=(n:Int):=t1
 have hT:gx h v=(h.s.1,h.s.2.set n (4,v,0,0,())):=by unfold gx;rw[t3]
 have B:Inv.fe gh h.s (gx h v):=by
  rw[hT]
  refine gJ H.inv ⟨rfl,by rw[List.length_set]⟩ (fun b hb=>absurd rfl hb) fun{i d d'} h1 h2=>?_
  rcases js hn2 h1 h2 with ⟨_,e1,e2⟩|⟨_,e2⟩
  ·exact .inr ⟨by rw[e1];decide,by rw[e2];exact(show ¬ (4:Int)=3 by decide),fun c=>by rw[e2] at c;exact absurd c (show ¬ (4:Int)=0 by decide)⟩
  ·exact .inl e2
 have I1:=H.inv.beside B
 have hq:=H.inv.cX B (H.root hx) a
 have hle:=H.inv.le
 have hfr:0<=(n:Int)/\(n:Int)<4096:=by omega
 have ZS:aX (gx h v).2 0+1=aX h.s.2 0:=by
  rw[hT]
  have:=nZ (d':=((4:Int),v,(0:Int),(0:Int),())) hn2 0
  rw[if_pos (show zD.1=0 from rfl),if_neg (show ¬ (4:Int)=0 by decide)] at this
  exact this
 rw[hF,sS,bH hx]
 by_cases e:(aV h.s x.root false a).2.2.1=0
 ·rw[if_pos e]
  rw[<-hq] at e
  unfold aV at e
  rw[if_neg (by decide),if_neg (by omega)] at e
  have e1:(cx (gx h v).1 x.root a).1=true:=by
   cases h1:(cx (gx h v).1 x.root a).1 with
   |true=>rfl
   |false=>rw[h1,if_neg (by decide)] at e;exact absurd e (show ¬ (4:Int)=0 by decide)
  have hR:iT a (n:Int) b=0:=by unfold iT;rw[if_neg (by omega),if_neg (by omega)]
  unfold gO ke
  rw[if_neg (by decide),if_pos hR,e1,Bool.true_or,if_pos rfl]
 ·rw[if_neg e]
  rw[<-hq] at e
  obtain⟨f,j,hj,hE⟩:=I1.jH (H.root hx) ha
  refine I1.uA (H.root hx) ha hfr hb hE ?_ (by omega)
  rw[I1.fB (H.root hx) ha hE] at e
  unfold lM at e
  cases h1:(aC (gx h v).1 (16*f+px j a % 16)).1 with
  |false=>rfl
  |true=>rw[if_pos h1] at e;exact absurd rfl e
structure Xp (h h':HS) (f o b:Int):Prop where
 g:h'.g=h.g
 gr:h'.gr=h.gr
 po:h'.po=h.po
 pg: ∀{i:Nat} {q:Int},dm h' i q=dm h i q
 ds:h'.s.2=h.s.2
 ld: ∀q,cZ h'.s.1 q=if q=16*f+o then b else cZ h.s.1 q
theorem HI.I8 (H:HI gh h) {v:Int} (hl:aD h.g v=true) {a b f r:Int} (ha:0<=a/\a<1048576) (hq:dm h v.toNat (a / 16)=(f,r,0,())) (hr:dK true r false f 2=true):ni h v a=0/\HI gh (dS h v a b)/\Xp h (dS h v a b) f (a % 16) b:=by
 have PX:cL h.g h.s v (a / 16)=(f,r,0,()):=by rw[qN hl];exact hq
 rcases H.word hl ha.1 (t:=2) (by decide) with ⟨_, _,hw,n,hn,qn,hfr⟩|⟨h2, _⟩|⟨_,h2, _⟩
 ·rw[PX] at hw hn
  dsimp only at hw hn
  subst hn
  rw[if_pos hr] at hw
  unfold ni
  have hin:uj h.s.1 (16*(n:Int)+a % 16)=true:=by
   have:=H.sz
   exact jk (by omega) (by omega)
  have hs:dS h v a b=bh h (cH h.s.1 (16*(n:Int)+a % 16) b,h.s.2):=by
   unfold dS;rw[hw];exact if_neg (fun c=>c rfl)
  obtain⟨m,d,hmn,hd,d4, _⟩:=H.Qs hfr
  have:n=m:=Int.ofNat.inj hmn
  subst this
  obtain⟨S1,S2⟩:=H.Bg hd d4 (o:=a % 16) (by omega) b
  rw[hs]
  refine⟨?_,S1,rfl,rfl,rfl,S2.pg.to fun c=>c,rfl,fun q=>?_⟩
  ·rw[hw,if_neg (fun c=>c rfl)]
   exact if_pos hin
  ·show cZ (cH h.s.1 (16*(n:Int)+a % 16) b) q= _
   by_cases e:q=16*(n:Int)+a % 16
   ·rw[if_pos e,e];exact qK hin
   ·rw[if_neg e];exact mw (fun c=>e c.symm)
 ·omega
 ·rw[PX] at h2;cases h2
theorem HI.xF (H:HI gh h) {v:Int} (hl:aD h.g v=true) {a f r:Int} (ha:0<=a/\a<1048576) (hq:dm h v.toNat (a / 16)=(f,r,0,())) (hr:dK true r false f 1=true):m8 h v a=(cZ h.s.1 (16*f+a % 16),0):=by
 have PX:cL h.g h.s v (a / 16)=(f,r,0,()):=by rw[qN hl];exact hq
 rcases H.word hl ha.1 (t:=1) (by decide) with ⟨_, _,hw,n,hn,qn,hfr⟩|⟨h2, _⟩|⟨_,h2, _⟩
 ·rw[PX] at hw hn
  dsimp only at hw hn
  rw[if_pos hr] at hw
  have hin:uj h.s.1 (16*f+a % 16)=true:=by
   have:=H.sz
   exact jk (by omega) (by omega)
  unfold m8
  rw[hw,if_neg (fun c=>c rfl)]
  exact congrArg _ (if_pos hin)
 ·omega
 ·rw[PX] at h2;cases h2
theorem HI.UN (H:HI gh h) {v:Int} (hl:aD h.g v=true) {a:Int} (ha:0<=a/\a<1048576) (hq:(dm h v.toNat (a / 16)).2.2.1≠0):m8 h v a=(0,4):=by
 rcases H.word hl ha.1 (t:=1) (by decide) with ⟨_,h2, _⟩|⟨h2, _⟩|⟨_, _,h2⟩
 ·rw[qN hl] at h2;exact absurd h2 hq
 ·omega
 ·unfold m8
  rw[h2,if_pos (by decide)]
end
end Go.Proofs.YtdnoecpjcoibmaaGreat
