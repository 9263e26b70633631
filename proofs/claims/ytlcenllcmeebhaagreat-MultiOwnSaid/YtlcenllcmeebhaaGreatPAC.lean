import Derived.Test.YtlcenllcmeebhaaGreatPAB
/-! What the statement leans on: texts joined and shortened by a program of mine. -/
set_option linter.unusedVariables false
set_option linter.unusedSimpArgs false
open Go renaming World->A0,Addr->AC,Value->AF,MapEntry->AM,TypeId->Bs
open Go.Proofs.Tryz renaming prog->A2
open Eq renaming mpr->AJ
open List renaming getElem?_eq_getElem->Ae,sublist_cons_self->Ar,getElem?_eq_some_iff->B1,getD_eq_getElem?_getD->B3,replicate->B4,mem_append_right->BW,mem_cons_of_mem->Bx,append_nil->Cg,set_set->Ci,mem_map->Cj,range->Ct,append_assoc->DE,mem_append_left->DL,mem_cons_self->DV,sublist_append_left->Db,ext_getElem?->Dk,getElem?_set_self->Dn,length_append->Ds,take_of_length_le->Dw,mem_cons->Dx,getElem?_set_ne->E4,mem_of_getElem?->E5,getElem?_of_mem->F6,perm_append_comm->FJ,take_append_of_le_length->FS,take_append_drop->FV,map_append->FW,range_succ->FX,filter_cons->FY,mem_range->Fk,length_map->Ft,getElem?_append_right->Fy,length_set->Fz,set_append_left->G1,drop_eq_nil_of_le->GD,drop_drop->GF,length_take->GG,getElem?_append_left->H6,nodup_cons->H7,mem_append->HB,filter_append->Hb,mem_filter->Hq,length_filter_le->Hr,length_cons->I1,length_nil->I2,find?_range_eq_some->IB,take_add_one->IP,getElem?_map->IR,getElem?_eq_none->In,cons_append->Ip,take_length->Iy
open And renaming intro->Aq
open Go.IntKind renaming i64->B2
open Nat renaming zero_add->B5,le_refl->DA,le_trans->Do,zero_le->F8,add_mul->FB,zero_mul->GH,blt_eq->GJ,add_zero->GS,eq_of_beq_eq_true->Ga,ne_of_beq_eq_false->Gd,min_eq_left->J3
open Go.Instr renaming findNow->DB,sameNow->J4
open Bool renaming or_eq_true->Dh,and_eq_true->Dq,or_eq_false_iff->FG,not_eq_true'->FH,and_eq_false_iff->Gi,false_eq_true->Gj,true_eq_false->H4,not_eq_false'->H5
namespace Go.Proofs.YtlcenllcmeebhaaGreat
set_option maxRecDepth 100000
open Go.RX
def B7 (Ls:List (Nat×List AF)) (s:Option AC×Nat×Nat) (xs:List Int):Prop:=
 (s=(none,0,0)/\xs=[]/\Ls=[])\/ ∃bs c rest,s=(some ⟨bs,0,none⟩,xs.length,c)/\Ls=[(bs,flat eI xs++rest)]/\(flat eI xs++rest).length=c*aD eI/\xs.length<=c
def okW (ws:List Int):Prop:= ∀x∈ws,0<=x/\x<18446744073709551616
def bD (ws:List Int) (pg wt:Int) (x:Int×Int×FT):Int×Int×FT:=
 if x.2.1= -1 then x
 else if(!uG (B (cL ws (ee x.1 pg x.2.1))).toNat||B6 ws (ee x.1 pg x.2.1) != 0)=true then(x.1,-1,wY x.2.1 11)
 else tookS x.1 pg wt x.2.1 x.2.2 (Il (B (cL ws (ee x.1 pg x.2.1))).toNat) (FF (B (cL ws (ee x.1 pg x.2.1))).toNat) (J' (B (cL ws (ee x.1 pg x.2.1))).toNat) (Fl (B (cL ws (ee x.1 pg x.2.1))).toNat)
theorem Gp {ws:List Int} (h:okW ws) (i:Int):0<=cL ws i/\cL ws i<18446744073709551616:=by
 unfold cL;split
 ·rename_i hi;rw[jo] at hi;exact h _ (by grind)
 simp
section
variable {D G:List Nat} {w0 w:A0} {L L0 Ls:List (Nat×List AF)} {bk bm bw n c:Nat} {ca la fr pg wt lv:Int} {fd:FT} {s:Option AC×Nat×Nat} {ws xs:List Int} {rest:List AF}
theorem Q3 (hb:bO w bk (l9 fr pg wt lv fd s)) (a:lv≠ -1):aE A2 58 (.el (.agg sA)) [ah (ae bk)] w (λx w'=>x=(1,ee fr pg lv,0,0,())/\Ext w w'):=by
 refine aS (C:=M1) (aW:=λ_=>[]) (AJ (QQ _ w _) ?_);have H:=At.start [] w;refine aN.go H λb c H=>⟨λ_=>rfl,λ_=>rfl,aj.lz H hb (by simp) rfl ⟨λ_=>rfl,λ_=>rfl,aj.lz H hb (by simp) rfl (an (by simp[a]) ?_)⟩⟩;refine⟨rfl,rfl,aj.lz H hb (by simp) rfl ⟨rfl,rfl,aj.lz H hb (by simp) rfl ⟨rfl,rfl,aj.lz H hb (by simp) rfl ⟨trivial,aC.all 0 H rfl rfl rfl λd H=>au.go H λe H=>aj.at 0 H rfl rfl ⟨rfl,H.all⟩⟩⟩⟩⟩
theorem Eg (H:At G w0 w ((bk,l9 fr pg wt lv fd s)::(bm,mv bw n c ca la)::(bw,flat eW ws++rest)::(Ls++L0))) (r:B7 Ls s xs) (hx:xs.length<=1000) (t:n=ws.length) (h0:0<n) (u:okW ws) (d:lv≠ -1) {K:Bool->A0->Prop}
 (k: ∀e g s',B7 g s' (xs++[fr])->At G w0 e ((bk,l9 (bD ws pg wt (fr,lv,fd)).1 pg wt (bD ws pg wt (fr,lv,fd)).2.1 (bD ws pg wt (fr,lv,fd)).2.2 s')::(bm,mv bw n c (xr ws (ee fr pg lv) ca) la)::(bw,flat eW ws++rest)::(g++L0))->K ((bD ws pg wt (fr,lv,fd)).2.1== -1) e):
 aA A2 22 (.el (.one .bool)) [ah (ae bk),ah (ae bm)] w K:=by
 refine aA.go H λw1 H=>ai (C:=M1) (aW:=λ_=>[]) (AJ (QW _ _ w1 K) ?_);refine⟨λ_=>rfl,λ_=>rfl,aj.cw 0 H rfl rfl (an rfl ⟨rfl,rfl,aj.cw 0 H rfl rfl (an (by simp[d]) ?_)⟩)⟩;refine⟨(1,ee fr pg lv,0,0,()),af.of (s:= .el (.agg sA)) λw' h'=>Q3 ((H.get (i:=0) rfl).ext h') d,?_⟩;refine abp H rfl 1 2 rfl rfl (by decide) t h0 (ee fr pg lv) 0 0 λe H=>?_;refine aN.go H λb L H=>aC.all 0 H rfl rfl rfl λM H=>⟨rfl,rfl,aj.cw 1 H rfl rfl ⟨rfl,rfl,aj.cw 1 H rfl rfl (aN.go H λh N H=>λz A=>?_)⟩⟩;have H:=H.ext A;dsimp only at H ⊢;generalize hv:cL ws (ee fr pg lv)=v at H ⊢;generalize D:B6 ws (ee fr pg lv)=er at H ⊢;have j:0<=v/\v<18446744073709551616:=by rw[<-hv];exact Gp u _
 have H:At G w0 z ([(h,cellsOf eI fr)]++([(b,[ax v,.bool false,aa er]),(bk,l9 fr pg wt lv fd s),(bm,mv bw n c (xr ws (ee fr pg lv) ca) la),(bw,flat eW ws++rest)]++(Ls++L0))):=H;have H:=H.perm (L':=(h,cellsOf eI fr)::(Ls++([(b,[ax v,.bool false,aa er]),(bk,l9 fr pg wt lv fd s),(bm,mv bw n c (xr ws (ee fr pg lv) ca) la),(bw,flat eW ws++rest)]++L0))) (.cons _ (by
  rw[<-DE, <-DE];exact List.Perm.append_right _ FJ))
 refine aM.grow H r rfl rfl rfl (by omega) λbs m a O E F H=>⟨rfl,rfl,aC.gP 2 H rfl rfl rfl λP H=>⟨rfl,aj.cw 1 H rfl rfl ?_⟩⟩;have I:U (B v)=v:=Ca j.1 j.2;refine⟨I,aN.go H λQ R H=>aC.all 0 H rfl rfl rfl λS H=>⟨λ_=>rfl,aj.cw 2 H rfl rfl ?_⟩⟩;have o:bD ws pg wt (fr,lv,fd)=if(!uG (B v).toNat||er != 0)=true then(fr,-1,wY lv 11) else tookS fr pg wt lv fd (Il (B v).toNat) (FF (B v).toNat) (J' (B v).toNat) (Fl (B v).toNat):=by
  unfold bD;simp only[hv,D];rw[ao d]
 have p:B7 [(bs,flat eI (xs++[fr])++a)] (some ⟨bs,0,none⟩,xs.length+1,m) (xs++[fr]):= .inr ⟨bs,m,a,by rw[Ds];rfl,rfl,E,by rw[Ds];exact F⟩;have q: ∀{w:A0} {x y:Nat×List AF} {l:List AF},At G w0 w (x::(bs,flat eI (xs++[fr])++a)::y::(bk,l)::(bm,mv bw n c (xr ws (ee fr pg lv) ca) la)::(bw,flat eW ws++rest)::L0)->At G w0 w _:=λ{w x y l} H=>by
  have H:=H.sub (Ar _ _);have H:=H.sub (L':=[(bs,flat eI (xs++[fr])++a)]++([(bk,l),(bm,mv bw n c (xr ws (ee fr pg lv) ca) la),(bw,flat eW ws++rest)]++L0)) (.cons_cons _ (Ar _ _));refine H.perm ?_;refine List.Perm.trans (l₂:=[(bk,l),(bm,mv bw n c (xr ws (ee fr pg lv) ca) la),(bw,flat eW ws++rest)]++([(bs,flat eI (xs++[fr])++a)]++L0)) (.refl _) ?_;rw[<-DE, <-DE];exact List.Perm.append_right _ FJ
 refine ab (λc1=>?_) (λc1=>aj.at 0 H rfl rfl ?_)
 ·rw[o,av c1] at k;exact qf H 3 rfl 0 0 0 11 λJ H=>au.go H λf H=>k f _ _ p (q H)
 ·rw[o,ao (by rw[c1];decide)] at k;refine Vf H 3 rfl _ _ _ _ λJ H=>⟨rfl,rfl,aj.cw 3 H rfl rfl (au.go H λf H=>k f _ _ p (q H))⟩
theorem Vg (hb:bO w bk (l9 fr pg wt lv fd s)):aE A2 24 (.bA [.agg sF,.one .bool]) [ah (ae bk)] w (λx w'=>x=(if lv= -1 then(fd,true,()) else((0,0,0,0,()),false,()))/\Ext w w'):=by
 obtain⟨f0,f1,f2,f3,f⟩:=fd;refine aS (C:=M1) (aW:=λ_=>[]) (AJ (Vd _ w _) ?_);have H:=At.start [] w;refine aN.go H λb g H=>⟨λ_=>rfl,λ_=>rfl,aj.lz H hb (by simp) rfl ⟨λ_=>rfl,λ_=>rfl,aj.lz H hb (by simp) rfl (ab (λc=>?_) (λc=>?_))⟩⟩
 ·have a:lv≠ -1:=by simpa using c
  rw[ao a];exact aC.all 0 H rfl rfl rfl λd H=>au.go H λe H=>aj.at 0 H rfl rfl ⟨rfl,H.all⟩
 ·have a:lv= -1:=by simpa using c
  rw[av a];refine⟨rfl,rfl,aj.lz (x:=(f0,f1,f2,f3,())) H hb (by simp) rfl ?_⟩;exact aC.all 0 H rfl rfl rfl λd H=>au.go H λe H=>aj.at 0 H rfl rfl ⟨rfl,H.all⟩
def rR (f p t:Int):Bool:=decide (ee f p 3<0)||decide (t<0)||decide (t>7)
theorem Je (H:aM D G w0 w L) (f p t:Int) {K:Option AC->A0->Prop} (hb:rR f p t=true-> ∀w1,aM D G w0 w1 L->K none w1)
 (hg:rR f p t=false-> ∀bk w1,aM D G w0 w1 ((bk,l9 f p t 3 (0,0,0,0,()) (none,0,0))::L)->K (ae bk) w1):
 aA A2 20 (.el (.one .ptr)) [aa f,aa p,aa t] w K:=by
 refine aA.go H λw1 H=>ai (C:=M1) (aW:=λ_=>[]) (AJ (Va f p t w1 K) ?_);refine aN.go H λb d H=>⟨trivial,ab (λc=>au.go H λa H=>hb c a (H.sub (by grind))) (λc=>au.go H λa H=>hg c b a H)⟩
end
section
variable {D G:List Nat} {w0 w:A0}
theorem _root_.Go.RX.aM.abq {e:El} {s:Option AC×Nat×Nat} {xs ys:List e.T} {b Q:Nat} {F:List AF} {Ls L0:List (Nat×List AF)} (H:aM D G w0 w ((b,flat e ys++F)::(Ls++L0))) (d:ys≠[])
 (hs:(s=(none,0,0)/\xs=[]/\Ls=[])\/ ∃bs c rest,s=(some ⟨bs,0,none⟩,xs.length,c)/\Ls=[(bs,flat e xs++rest)]/\(flat e xs++rest).length=c*aD e/\xs.length<=c)
 (S:im e=true) {t:Bs} {size bytes:Nat} {z:Array AF} (o:size=aD e) (U:z.size=aD e) (hb:(xs.length+ys.length)*bytes<=140737488355328)
 {R:Option AC×Nat×Nat->A0->Prop} (k: ∀bs c rest w',(flat e (xs++ys)++rest).length=c*aD e->(xs++ys).length<=c->aM D G w0 w' ((bs,flat e (xs++ys)++rest)::L0)->R (some ⟨bs,0,none⟩,(xs++ys).length,c) w'):
 mJ w t size bytes z s (some ⟨b,0,none⟩,ys.length,Q) R:=by
 subst o;have V:(vI 0 w).heap.size=0:=iQ (F8 _);have W:lW (vI 0 w) w e s xs:=by
  rcases hs with ⟨rfl,rfl, _⟩|⟨bs,c,rest,rfl,rfl,h1,q⟩
  ·exact lW.nil _ _ _
  ·refine⟨rfl,q,.inr ⟨bs, _,rfl,by rw[V];exact F8 _,H.get (i:=1) rfl,h1,?_⟩⟩;rw[FS (by rw[aF];exact DA _),Dw (by rw[aF];exact DA _)]
 have X:bO w b (flat e ys++F):=H.get (i:=0) rfl;refine lQ (ys:=ys) W (qs (F8 _)) S rfl ?_ U hb λs' w' Y g I o J=>?_
 ·refine X.oP (aF e ys) λj Z=>?_;rw[B5,H6 (by rw[aF];exact Z)]
 ·obtain⟨p,n,c⟩:=s';obtain⟨h1,q,K⟩:=Y;simp only at h1 q K J;have hyl:0<ys.length:=List.length_pos_iff.2 d;have hlen:(xs++ys).length=xs.length+ys.length:=by simp
  rcases K with ⟨_,hx, _⟩|⟨bs,l,a1, _,a3,a4,a5⟩
  ·simp at hx;exact absurd hx.2 d
  ·subst a1;subst h1;have el:l=flat e (xs++ys)++l.drop ((xs++ys).length*aD e):=by rw[<-a5,FV]
   refine k bs c (l.drop ((xs++ys).length*aD e)) w' (by rw[<-el];exact a4) q ?_;rw[<-el];have hG': ∃B,Fr B w w'/\(∀y∈B,y∈Ls.map (·.1)):=by
    rcases hs with ⟨rfl, _,rfl⟩|⟨bo,co,L,rfl,rfl, _, _⟩
    ·exact⟨[],⟨g.os,g.tape,g.output,o,λy d _=>I y d (λa C=>by cases C)⟩,λy d=>by cases d⟩
    ·exact⟨[bo],⟨g.os,g.tape,g.output,o,λy d hn=>I y d (λa C=>by cases C;simpa using hn)⟩,λy d=>by simpa using d⟩
   obtain⟨B,M,E⟩:=hG';have v:=H.nd;simp only[List.map_cons,FW,H7,List.nodup_append,HB] at v;have N: ∀y∈Ls.map (·.1),w0.heap.size<=y\/y∈G:=λy d=>by
    obtain⟨u,m,rfl⟩:=Cj.1 d;exact H.own u (Bx _ (DL _ m))
   have O:bs∈Ls.map (·.1)\/w.heap.size<=bs:=by
    rcases J with ⟨a,f,x⟩|⟨a,f,x⟩|f
    ·cases f;rcases hs with ⟨rfl, _, _⟩|⟨bo,co,L,rfl,rfl, _, _⟩
     ·cases x
     ·cases x;exact .inl (by simp)
    ·cases f;exact .inr x
    ·rcases hs with ⟨rfl,rfl, _⟩|⟨bo,co,L,rfl,rfl, _, _⟩
     ·cases f
     ·have P:=congrArg (λz=>z.2.1) f;simp at P;exact absurd P d
   refine H.frame M (λy d=>N y (E y d)) (λr hr d=>?_) (λy d=>?_) (λy d=>?_) ?_
   ·obtain⟨u,m,f⟩:=Cj.1 (E r d);exact aM.dg (H.dj u (Bx _ (DL _ m))) (H.p9 r hr).2 (λ_ _ _ hc=>by cases hc) f
   ·rcases Dx.1 d with rfl|d
    ·exact a3
    ·refine M.dj (λA=>?_) (H.dj y (Bx _ (BW _ d)));exact v.2.2.2 y.1 (E _ A) y.1 (Cj.2 ⟨y,d,rfl⟩) rfl
   ·rcases Dx.1 d with rfl|d
    ·rcases O with h|h
     ·exact N _ h
     ·exact .inl (Do H.fr.size h)
    ·exact H.own y (Bx _ (BW _ d))
   ·refine H7.2 ⟨λA=>?_,v.2.2.1⟩;rcases O with h|h
    ·exact v.2.2.2 bs h bs A rfl
    ·obtain⟨u,m,f⟩:=Cj.1 A;have:=(H.dj u (Bx _ (BW _ m))).lt;simp only at f h;omega
end
abbrev mK (br n c:Nat):List AF:=[.slice (ae br) n c]
def l_ (gs:List GT) (i:Int):Option Nat:=if 0<=i/\i<gs.length/\gs.getD i.toNat zG≠zG then some i.toNat else none
def wZ (gs:List GT) (i:Int):GT:=match l_ gs i with
 |some k=>gs.getD k zG
 |none=>zG
def iq (gs:List GT) (i g:Int) (b:Bool):Int:=match l_ gs i with
 |none=>4
 |some k=>if((gs.getD k zG).2.2.1 != g||b&& !(gs.getD k zG).2.2.2.1)=true then 7 else if(gs.getD k zG).2.2.2.2.1=1000 then 3 else 0
def fv (x:GT) (n:Int):GT:=(x.1,x.2.1,x.2.2.1,x.2.2.2.1,x.2.2.2.2.1+n,())
def dK (gs:List GT) (i g:Int) (b:Bool):List GT:=if iq gs i g b=0 then gs.set i.toNat (fv (gs.getD i.toNat zG) 1) else gs
def mH (gs:List GT) (i g:Int):Int:=match l_ gs i with
 |none=>4
 |some k=>if(gs.getD k zG).2.2.1≠g then 7 else if(gs.getD k zG).2.2.2.2.1=0 then 6 else 0
def dS (gs:List GT) (i g:Int):List GT:=if mH gs i g=0 then gs.set i.toNat (fv (gs.getD i.toNat zG) (-1)) else gs
def qY (gs:List GT) (i o:Int):Int:=match l_ gs i with
 |none=>4
 |some k=>if(gs.getD k zG).1≠o then 7 else if(gs.getD k zG).2.2.2.2.1>0 then 9 else 0
def j9 (gs:List GT) (i o:Int):List GT:=if qY gs i o=0 then gs.set i.toNat zG else gs
def dh (gs:List GT) (p:GT->Bool) (n:Nat):List Int:=((Ct n).filter λ(i:Nat)=>p (gs.getD i zG)).map λ(i:Nat)=>(i:Int)
def kr (o q t:Int) (x:GT):Bool:=o==x.1&&(q==x.2.1&&t==x.2.2.1)
def e9 (x:GT):Bool:=decide (x=zG)
def oT (g:Int) (x:GT):Bool:= !e9 x&&(x.1==g||x.2.2.1==g)
def lF (gs:List GT) (o q t:Int):Int:=
 if(!gG o|| !gG t||o==t||decide (q<0)||decide (q>=65536))=true then 1
 else if dh gs (kr o q t) gs.length≠[] then 5 else if dh gs e9 gs.length=[] then 3 else 0
def kK (gs:List GT) (o q t:Int):Int:=if lF gs o q t=0 then(dh gs e9 gs.length).headD 0 else 0
def jh (gs:List GT) (o q t:Int) (b:Bool):List GT:=if lF gs o q t=0 then gs.set (kK gs o q t).toNat (o,q,t,b,0,()) else gs
def cP (gs:List GT) (g:Int):List GT:=gs.map λx=>if oT g x=true then zG else x
theorem Q4 (x:GT):mQ x.1 x.2.1 x.2.2.1 x.2.2.2.1 x.2.2.2.2.1=e9 x:=rfl
theorem sw (gs:List GT) (p:GT->Bool) (n:Nat):dh gs p (n+1)=dh gs p n++(if p (gs.getD n zG)=true then[(n:Int)] else[]):=by
 unfold dh;rw[FX,Hb,FW];by_cases h:p (gs.getD n zG)=true
 ·rw[av h,FY,av h];rfl
 ·rw[ao h,FY,ao h];rfl
theorem qv {gs:List GT} {p:GT->Bool} {n:Nat} {x:Int}:x∈dh gs p n<-> ∃i:Nat,i<n/\p (gs.getD i zG)=true/\x=(i:Int):=by
 unfold dh;simp only[Cj,Hq,Fk];constructor
 ·rintro⟨i,⟨h1,a⟩,rfl⟩;exact⟨i,h1,a,rfl⟩
 ·rintro⟨i,h1,a,rfl⟩;exact⟨i,⟨h1,a⟩,rfl⟩
theorem qw (gs:List GT) (p:GT->Bool) (n:Nat):(dh gs p n).length<=n:=by
 unfold dh;rw[Ft];exact Do (Hr _ _) (by simp)
theorem lL {gs:List GT} {i:Int} {k:Nat} (h:l_ gs i=some k):0<=i/\i<gs.length/\k=i.toNat/\gs[k]? =some (gs.getD k zG)/\gs.getD k zG≠zG:=by
 unfold l_ at h;split at h
 ·rename_i c;cases h;refine⟨c.1,c.2.1,rfl,?_,c.2.2⟩;rw[B3,Ae (by omega)];rfl
 ·cases h
section
variable {D G:List Nat} {w0 w:A0} {L:List (Nat×List AF)} {bg br c:Nat} {gs:List GT} {rest:List AF}
theorem Lu (h:bO w bg (mK br gs.length c)) (h0:0<gs.length):aE A2 224 (.el (.one .bool)) [ah (ae bg)] w (λx w'=>x=true/\Ext w w'):=by
 refine ai (C:=G3) (aW:=λ_=>[]) (AJ (KY _ w _) ?_);refine⟨λ_=>rfl,λ_=>rfl,(some ⟨br,0,none⟩,gs.length,c),λ_=>?_,λw1 h1=>⟨?_,h1⟩⟩
 ·rw[aY];exact h.oF rfl
 ·simp;exact h0
theorem pK (h:bO w bg (mK br gs.length c)) (h0:0<gs.length):af A2 224 [ah (ae bg)] w (.bool true):=
 af.of (s:= .el (.one .bool)) λw' h'=>Lu (h.ext h') h0
def Cc (br:Nat) (gs:List GT) (i:Int):Option AC:=(l_ gs i).map λk=>⟨br,k*5,none⟩
def Cd (gs:List GT) (i:Int):Int:=if(l_ gs i).isSome then 0 else 4
theorem ZQ (h:bO w bg (mK br gs.length c)) (j:bO w br (flat eG gs++rest)) (h0:0<gs.length) (i:Int):
 aE A2 221 (.bA [.one .ptr,.one (.int .i64)]) [ah (ae bg),aa i] w (λx w'=>x=(Cc br gs i,Cd gs i,())/\Ext w w'):=by
 refine ai (C:=G3) (aW:=λ_=>[]) (AJ (ZI _ i w _) ?_);have f:cU w (ad (ae bg) 0) (.one .slice) (some ⟨br,0,none⟩,gs.length,c):=by rw[aY];exact h.oF rfl
 refine⟨_,pK h h0,an rfl ⟨λ_=>rfl,λ_=>rfl,(some ⟨br,0,none⟩,gs.length,c),λ_=>f,λ_=>rfl,λ_=>rfl,(some ⟨br,0,none⟩,gs.length,c),λ_=>f,?_⟩⟩;dsimp only;have g:(l_ gs i=none)->(Cc br gs i,Cd gs i,())=((none,4,()):Option AC×Int×Unit):=λe=>by
  unfold Cc Cd;rw[e];rfl
 by_cases b:0<=i/\i<gs.length
 ·have c1:(decide (i<0)||decide (i>=((gs.length:Nat):Int)))=false:=by
   rw[FG,decide_eq_false_iff_not,decide_eq_false_iff_not];omega
  have hx:gs[i.toNat]? =some (gs.getD i.toNat zG):=by
   rw[B3,Ae (by omega)];rfl
  rw[c1];refine⟨λ_=>⟨rfl,b.1,b.2⟩,gs.getD i.toNat zG,λ_=>fV (e:=eG) j hx,λ_=>trivial,?_⟩;rw[Q4];refine ab (λd=>λw1 h1=>⟨(g ?_).symm,h1⟩) (λd=>⟨rfl,rfl,aj.of _ f ⟨⟨rfl,b.1,b.2⟩,λw1 h1=>⟨?_,h1⟩⟩⟩)
  ·have d:gs.getD i.toNat zG=zG:=by simpa[e9] using d
   unfold l_;rw[ao (λa=>a.2.2 d)]
  ·have d: ¬ gs.getD i.toNat zG=zG:=by simpa[e9] using d
   have e:l_ gs i=some i.toNat:=by unfold l_;rw[av ⟨b.1,b.2,d⟩]
   unfold Cc Cd;rw[e,aY];simp
 ·have c1:(decide (i<0)||decide (i>=((gs.length:Nat):Int)))=true:=by
   rw[Dh,decide_eq_true_eq,decide_eq_true_eq];omega
  rw[c1];refine⟨λa=>(by cases a),zG,λa=>(by cases a),λ_=>trivial,aB rfl λw1 h1=>⟨(g ?_).symm,h1⟩⟩;unfold l_;rw[ao (λa=>b ⟨a.1,a.2.1⟩)]
theorem IJ (h:bO w bg (mK br gs.length c)) (a:bO w br (flat eG gs++rest)) (h0:0<gs.length) (i:Int):
 af A2 221 [ah (ae bg),aa i] w ((Sh.bA [.one .ptr,.one (.int .i64)]).iu (Cc br gs i,Cd gs i,())):=
 af.of (s:= .bA [.one .ptr,.one (.int .i64)]) λw' h'=>ZQ (h.ext h') (a.ext h') h0 i
theorem Vh {bc:Nat} {o q t:Int} (hc:bO w bc [aa o,aa q,aa t,.bool false,aa 0]) (x:GT):
 af A2 226 [.agg ⟨[aa x.1,aa x.2.1,aa x.2.2.1,.bool x.2.2.2.1,aa x.2.2.2.2.1]⟩,ah (ae bc)] w (.bool (kr o q t x)):=by
 refine af.of (s:= .el (.one .bool)) λw' h'=>ai (C:=G3) (aW:=λ_=>[]) (AJ (Qw _ _ _ _ _ _ w' _) ?_);have H:=At.start [] w';refine aN.go H λb a H=>aj.of (o,q,t,false,0,()) (dV ((hc.ext h').ext H.all) rfl) ⟨rfl,aj.cw 0 H rfl rfl ⟨rfl,aj.cw 0 H rfl rfl ⟨rfl,aj.cw 0 H rfl rfl (au.go H λc H=>⟨?_,H.all⟩)⟩⟩⟩;unfold kr;simp
theorem Q5 {bc:Nat} {g:Int} (hc:bO w bc [aa g]) (x:GT):
 af A2 209 [.agg ⟨[aa x.1,aa x.2.1,aa x.2.2.1,.bool x.2.2.2.1,aa x.2.2.2.2.1]⟩,ah (ae bc)] w (.bool (oT g x)):=by
 refine af.of (s:= .el (.one .bool)) λw' h'=>ai (C:=G3) (aW:=λ_=>[]) (AJ (KZ _ _ _ _ _ _ w' _) ?_);have H:=At.start [] w';refine aN.go H λb c H=>?_;have a:cU c (ae bc) (.one (.int .i64)) g:=dV ((hc.ext h').ext H.all) rfl;refine aj.at 0 H rfl (show _=some x from rfl) ⟨trivial,λ_=>rfl,aj.cw 0 H rfl rfl (aj.of g a ⟨λ_=>rfl,aj.cw 0 H rfl rfl (aj.of g a (au.go H λd H=>⟨?_,H.all⟩))⟩)⟩;rfl
theorem Oy {j:Nat} {x:Nat×List AF} (h:L[j]? =some x):L.set j x=L:=Dk λm=>by
 by_cases e:j=m
 ·subst e;rw[Dn (B1.1 h).1,h]
 ·rw[E4 e]
end
end Go.Proofs.YtlcenllcmeebhaaGreat
namespace Go.Proofs.YtlcenllcmeebhaaGreat.Po
set_option maxRecDepth 100000
open Go.RX
abbrev sQ:List Sc:=[.int .i64,.int .i64,.int .i64,.bool,.bool]
abbrev eQ:El:= .agg sQ
abbrev PT:Type:=Int×Int×Int×Bool×Bool×Unit
def zP:PT:=(0,0,0,false,false,())
def gI (n:Int):Bool:=decide (n>=1)&&decide (n<=16)
noncomputable def R0:dG A2:={C3 with vG:=false}
theorem Q6 (n:Int) (w:A0) (a:Bool->A0->Prop):(aI R0 (λ_=>[]) 212 [aa n] w a)=(
 au w (a (decide (n>=1)&&decide (n<=16)))):=by kernel_rfl
theorem Q7 (n:Int) (w:A0):aE A2 212 (.el (.one .bool)) [aa n] w (λx w'=>x=gI n/\Ext w w'):=by
 refine ai (C:=R0) (aW:=λ_=>[]) (AJ (Q6 n w _) ?_);have H:=At.start [] w
 repeat' (first
  |exact Go.RX.aM.all H
  |exact Aq (by first|rfl|decide+kernel) (Go.RX.aM.all H)
  |refine Aq (by first|exact rfl|exact trivial|exact λ_=>rfl|exact λ_=>trivial|exact⟨rfl,by decide,by decide⟩|exact⟨by decide,by decide⟩|decide+kernel|exact λ_=>by decide|exact λ_=>⟨rfl,by decide,by decide⟩|(dsimp only[I1,I2];exact⟨rfl,by decide,by decide⟩)) ?_
  |refine aj.cw 0 H rfl rfl ?_
  |refine aj.cw 1 H rfl rfl ?_
  |refine aj.at 0 H rfl rfl ?_
  |refine aj.at 1 H rfl rfl ?_
  |refine aN.go H λb w1 H=>?_
  |refine aC.all 0 H rfl rfl rfl λw1 H=>?_
  |refine aC.all 1 H rfl rfl rfl λw1 H=>?_
  |refine aC.gP 0 H rfl rfl rfl λw1 H=>?_
  |refine aC.gP 1 H rfl rfl rfl λw1 H=>?_
  |refine aC.one 0 H rfl rfl rfl λw1 H=>?_
  |refine aC.one 1 H rfl rfl rfl λw1 H=>?_
  |with_reducible refine au.go H λw1 H=>?_
  |refine kq ?_
  |refine aB (by assumption) ?_
  |refine an (by assumption) ?_
  |refine ab (λc=>?_) (λc=>?_))
noncomputable def ZR:Entry A2 where
 f:=212
 fn l:=match l with
  |[.int .i64 a]=>some (True,.bool (gI a))
  | _=>none
 ok args pre v h b w:=by
  split at h
  ·rename_i a;cases h;exact bY (Q7 a w)
  ·cases h
noncomputable def R1:dG A2:={R0 with sP:=[ZR],quiet:=[211,213,229,245,231]}
theorem Q8 (p:Option AC) (w:A0) (a:Bool->A0->Prop):(aI R1 (λ_=>[]) 211 [ah p] w a)=(
 ((!p.isNone)=true->p.isSome=true)/\((!p.isNone)=true->p.isSome=true)/\aj w (some !p.isNone) (ad p 2560) aX λ(x:Int)=>au w (a (!p.isNone&&decide (x>0)))):=by kernel_rfl
theorem OS (p:Option AC) (g i:Int) (w:A0) (a:Option AC->A0->Prop):(aI R1 (λ_=>[]) 213 [ah p,aa g,aa i] w a)=(
 ∃x,af A2 211 [ah p] w (.bool x)/\((!!x)=true->True)/\((!(!x|| !gI g||decide (i<0)))=true->p.isSome=true)/\((!(!x|| !gI g||decide (i<0)))=true->p.isSome=true)/\aj w (some !(!x|| !gI g||decide (i<0))) (ad p 2560) aX λ(b:Int)=>aG (!x|| !gI g||decide (i<0)||decide (i>=b)) (au w (a none)) (p.isSome=true/\p.isSome=true/\((ad p 0).isSome=true/\0<=a6 .i64 g 1/\a6 .i64 g 1<(↑16:Int))/\((ad (ad p 0) ((a6 .i64 g 1).toNat*160)).isSome=true/\0<=i/\i<(↑32:Int))/\(ad (ad (ad p 0)
 ((a6 .i64 g 1).toNat*160)) (i.toNat*5)).isSome=true/\aj w none (ad (ad (ad p 0) ((a6 .i64 g 1).toNat*160)) (i.toNat*5)) (.agg [.int .i64,.int .i64,.int .i64,.bool,.bool]) λ(x:Int×Int×Int×Bool×Bool×Unit)=>aG (x.1==0&&(x.2.1==0&&(x.2.2.1==0&&(x.2.2.2.1==false&&(x.2.2.2.2.1==false&&true))))) (au w (a none)) (au w λw1=>a (ad (ad (ad p 0) ((a6 .i64 g 1).toNat*160)) (i.toNat*5)) w1))):=by kernel_rfl
def ui:Nat->a7:=(λ|2=>[(10,Go.RX.El.one (Go.RX.Sc.int B2))]| _=>[])
theorem Q9 (p:Option AC) (g:Int) (w:A0) (a:Int->A0->Prop):(aI R1 ui 245 [ah p,aa g] w a)=(
 cM p 2560 w λx=> ∃(I:Nat->Int×Unit->A0->Prop),(∃n, ∀w1,Ext w w1->I n (0,()) w1)/\ ∀(n:Nat) (s:Int×Unit) (w1:A0),I n s w1->aG (decide (s.1<x)) (∃(x:Option AC),af A2 213 [ah p,aa g,aa s.1] w1 (ah x)/\aG x.isNone (au w1 (a s.1)) (∀b,Ext w1 b-> ∃(c:Nat),c<n/\I c (aH .i64 s.1 1,()) b)) (au w1 (a (-1)))):=by kernel_rfl
theorem ZS (p:Option AC) (g r:Int) (w:A0) (a:Int->A0->Prop):(aI R1 (λ_=>[]) 229 [ah p,aa g,aa r] w a)=(
 ∃x,af A2 211 [ah p] w (.bool x)/\aG (!x) (au w (a 10)) (True/\((!!gI g)=true->True)/\aG (!gI g|| !gI r||g==r) (au w (a 1)) (au w (a 0)))):=by kernel_rfl
theorem Vi (p:Option AC) (w:A0) (a:Int->A0->Prop):(aI R1 (λ_=>[]) 231 [ah p] w a)=(
 ∃x,af A2 211 [ah p] w (.bool x)/\aG (!x) (au w (a 10)) (au w (a 4))):=by kernel_rfl
theorem ZT (p:Option AC) (g:Int) (e f h:Int) (i j:Bool) (w:A0) (d:Int×Int×Unit->A0->Prop):(aI R1 (λ_=>[]) 230 [ah p,aa g,.agg ⟨[aa e,aa f,aa h,.bool i,.bool j]⟩] w d)=(
 aN w ⟨[aa e,aa f,aa h,.bool i,.bool j]⟩ 217 λb a=> ∃(x:Int),af A2 245 [ah p,aa g] a (aa x)/\aG (x== -1) (au a (d (0,3,()))) (aj a none (ae b) (.agg [.int .i64,.int .i64,.int .i64,.bool,.bool]) λ(c:Int×Int×Int×Bool×Bool×Unit)=>p.isSome=true/\p.isSome=true/\((ad p 0).isSome=true/\0<=a6 .i64 g 1/\a6 .i64 g 1<(↑16:Int))/\((ad (ad p 0) ((a6 .i64 g 1).toNat*160)).isSome=true/\0<=x/\x<(↑32:Int))/\aC a (ad (ad (ad p 0) ((a6 .i64 g
 1).toNat*160)) (x.toNat*5)) [aa c.1,aa c.2.1,aa c.2.2.1,.bool c.2.2.2.1,.bool c.2.2.2.2.1] λa=>au a (d (x,0,())))):=by kernel_rfl
theorem Q_ (p:Option AC) (g r:Int) (w:A0) (a:Int×Int×Unit->A0->Prop):(aI R1 (λ_=>[]) 185 [ah p,aa g,aa r] w a)=(
 ∃(x:Int),af A2 229 [ah p,aa g,aa r] w (aa x)/\aG (x != 0) (au w (a (0,x,()))) (aA A2 230 (.bA [.one (.int .i64),.one (.int .i64)]) [ah p,aa g,.agg ⟨[aa 1,aa r,aa 0,.bool false,.bool false]⟩] w λ(x:Int×Int×Unit) b=>au b (a (x.1,x.2.1,())))):=by kernel_rfl
theorem Ra (p:Option AC) (g r i:Int) (w:A0) (a:Int×Int×Unit->A0->Prop):(aI R1 (λ_=>[]) 186 [ah p,aa g,aa r,aa i] w a)=(
 ∃(x:Int),af A2 229 [ah p,aa g,aa r] w (aa x)/\aG (x != 0) (au w (a (0,x,()))) (∃(x:Option AC),af A2 213 [ah p,aa r,aa i] w (ah x)/\aG x.isNone (au w (a (0,4,()))) (cM x 0 w λd=>aG (d==2) (au w (a (0,6,()))) (cM x 1 w λe=>aG (e != g) (au w (a (0,7,()))) (aA A2 230 (.bA [.one (.int .i64),.one (.int .i64)]) [ah p,aa g,.agg ⟨[aa 2,aa r,aa i,.bool false,.bool false]⟩] w λ(b:
 Int×Int×Unit) c=>aG (b.2.1==0) (x.isSome=true/\x.isSome=true/\aC c (ad x 0) [aa 2] λc=>x.isSome=true/\x.isSome=true/\aC c (ad x 2) [aa b.1] λc=>au c (a (b.1,b.2.1,()))) (au c (a (b.1,b.2.1,())))))))):=by kernel_rfl
theorem Rb (p:Option AC) (g i:Int) (w:A0) (a:Int->A0->Prop):(aI R1 (λ_=>[]) 187 [ah p,aa g,aa i] w a)=(
 ∃(x:Option AC),af A2 213 [ah p,aa g,aa i] w (ah x)/\aG x.isNone (∃(x:Int),af A2 231 [ah p] w (aa x)/\au w (a x)) (cM x 0 w λc=>aG (c != 2) (au w (a 6)) (cM x 1 w λd=>cM x 2 w λx=> ∃(b:Option AC),af A2 213 [ah p,aa d,aa x] w (ah b)/\b.isSome=true/\b.isSome=true/\aC w (ad b 3) [.bool true] λe=>au e (a 0)))):=by kernel_rfl
def uj:Nat->a7:=(λ|5=>[(5,Go.RX.El.one Go.RX.Sc.slice),(15,Go.RX.El.one (Go.RX.Sc.int B2))]| _=>[])
theorem Re (p:Option AC) (g:Int) (w:A0) (e:Option AC×Nat×Nat->A0->Prop):(aI R1 uj 232 [ah p,aa g] w e)=(
 ∃x,af A2 211 [ah p] w (.bool x)/\aG (!x) (au w (e (none,0,0))) (cM p 2560 w λx=> ∃(I:Nat->(Option AC×Nat×Nat)×Int×Unit->A0->Prop),(∃n, ∀w1,Ext w w1->I n ((none,0,0),0,()) w1)/\ ∀(n:Nat) (s:(Option AC×Nat×Nat)×Int×Unit) (w1:A0),I n s w1->aG (decide (s.2.1<x)) (∃(x:Option AC),af A2 213 [ah p,aa g,aa s.2.1] w1 (ah x)/\((!x.isNone)=true->x.isSome=true)/\((!x.isNone)=true->x.isSome=true)/\aj w1 (some !x.isNone) (ad x 3) rO λd=>
 ((!x.isNone&&d)=true->x.isSome=true)/\((!x.isNone&&d)=true->x.isSome=true)/\aj w1 (some (!x.isNone&&d)) (ad x 4) rO λh=>aG (!x.isNone&&d&& !h) (aN w1 ⟨[aa s.2.1]⟩ 3 λb f=> ∀w1,Ext f w1->mJ w1 3 1 8 ⟨[aa 0]⟩ (s.1.1,s.1.2.1,s.1.2.2) (some ⟨b,0,none⟩,1,1) λ(r:Option AC×Nat×Nat) f=> ∀a,Ext f a-> ∃(c:Nat),c<n/\I c ((r.1,r.2.1,r.2.2),aH .i64 s.2.1 1,()) a) (∀a,Ext w1 a-> ∃(c:Nat),c<n/\I c ((s.1.1,s.1.2.1,s.1.2.2),aH .i64 s.2.1 1,()) a)) (au w1 (e
 (s.1.1,s.1.2.1,s.1.2.2))))):=by kernel_rfl
theorem Rf (p:Option AC) (g:Int) (w:A0) (c:Int×Bool×Unit->A0->Prop):(aI R1 (λ_=>[]) 188 [ah p,aa g] w c)=(
 aA A2 232 (.el fi) [ah p,aa g] w λx a=>aG ((↑x.2.1:Int)==0) (au a (c (0,false,()))) ((x.1.isSome=true/\(0:Int)<=0/\0<(↑x.2.1:Int))/\aV a (ad x.1 0) λd=> ∃(b:Option AC),af A2 213 [ah p,aa g,aa d] a (ah b)/\b.isSome=true/\b.isSome=true/\aC a (ad b 3) [.bool false] λa=>(x.1.isSome=true/\(0:Int)<=0/\0<(↑x.2.1:Int))/\aV a (ad x.1 0) λx=>au a (c (x,true,())))):=by kernel_rfl
theorem Lv (p:Option AC) (g i:Int) (w:A0) (c:Int->A0->Prop):(aI R1 (λ_=>[]) 189 [ah p,aa g,aa i] w c)=(
 ∃(x:Option AC),af A2 213 [ah p,aa g,aa i] w (ah x)/\aG x.isNone (∃(x:Int),af A2 231 [ah p] w (aa x)/\au w (c x)) (cM x 0 w λd=>aG (d==2) (cM x 1 w λe=>cM x 2 w λf=> ∃(a:Option AC),af A2 213 [ah p,aa e,aa f] w (ah a)/\a.isSome=true/\a.isSome=true/\aC w (ad a 0) [aa 1] λb=>a.isSome=true/\a.isSome=true/\aC b (ad a 2) [aa 0] λb=>x.isSome=true/\aC b x [aa 0,.int .i64
 0,aa 0,.bool false,.bool false] λb=>au b (c 0)) (x.isSome=true/\aC w x [aa 0,aa 0,aa 0,.bool false,.bool false] λb=>au b (c 0)))):=by kernel_rfl
def uk:Nat->a7:=(λ|5=>[(5,Go.RX.El.one (Go.RX.Sc.int B2)),(22,Go.RX.El.one (Go.RX.Sc.int B2))]|11=>[(5,Go.RX.El.one (Go.RX.Sc.int B2)),(7,Go.RX.El.one (Go.RX.Sc.int B2))]|14=>[(5,Go.RX.El.one (Go.RX.Sc.int B2)),(41,Go.RX.El.one (Go.RX.Sc.int B2))]| _=>[])
theorem Rh (p:Option AC) (g:Int) (w:A0) (h:Int->A0->Prop):(aI R1 uk 170 [ah p,aa g] w h)=(
 ∃x,af A2 211 [ah p] w (.bool x)/\((!!x)=true->True)/\aG (!x|| !gI g) (au w (h 0)) (cM p 2560 w λx=> ∃(I:Nat->Int×Int×Unit->A0->Prop),(∃n, ∀w1,Ext w w1->I n (0,0,()) w1)/\ ∀(n:Nat) (s:Int×Int×Unit) (w1:A0),I n s w1->aG (decide (s.2.1<x)) (aA A2 189 (.el aX) [ah p,aa g,aa s.2.1] w1 λ(x:Int) e=>aG (x==0) (∀a,Ext e a-> ∃(b:Nat),b<n/\I b (aH .i64 s.1 1,aH .i64 s.2.1 1,()) a) (∀a,Ext e a-> ∃(b:Nat),b<n/\I b (s.1,aH .i64 s.2.1 1,
 ()) a)) (∃(I:Nat->Int×Int×Unit->A0->Prop),(∃n, ∀d,Ext w1 d->I n (s.1,1,()) d)/\ ∀(n:Nat) (s:Int×Int×Unit) (w1:A0),I n s w1->aG (decide (s.2.1<=16)) (cM p 2560 w1 λx=> ∃(f:Nat->Int×Int×Unit->A0->Prop),(∃n, ∀d,Ext w1 d->f n (s.1,0,()) d)/\ ∀(i:Nat) (c:Int×Int×Unit) (w1:A0),f i c w1->aG (decide (c.2.1<x)) (∃(x:Option AC),af A2 213 [ah p,aa s.2.1,aa c.2.1] w1 (ah x)/\((!x.isNone)=true->x.isSome=true)/\
 ((!x.isNone)=true->x.isSome=true)/\aj w1 (some !x.isNone) (ad x 1) aX λ(j:Int)=>aG (!x.isNone&&j==g) (x.isSome=true/\aC w1 x [aa 0,aa 0,aa 0,.bool false,.bool false] λe=> ∀a,Ext e a-> ∃(b:Nat),b<i/\f b (aH .i64 c.1 1,aH .i64 c.2.1 1,()) a) (∀a,Ext w1 a-> ∃(b:Nat),b<i/\f b (c.1,aH .i64 c.2.1 1,()) a)) (∀a,Ext w1 a-> ∃(b:Nat),b<n/\I b (c.1,aH .i64 s.2.1 1,()) a)) (au w1 (h s.1))))):=by kernel_rfl
theorem Jf {ss:List Sc} {xs:List (jX ss)} {rest:List AF} {k f:Nat} {x:jX ss} (hx:xs[k]? =some x) (a:f<ss.length):(flat (.agg ss) xs++rest)[k*ss.length+f]? =(bu ss x)[f]? :=by
 induction xs generalizing k with
 |nil=>simp at hx
 |cons y ys b=>
  cases k with
  |zero=>
   simp at hx;have c:f<(bu ss y).length:=by rw[cC];exact a
   simp only[GH,B5];show((bu ss y++flat (.agg ss) ys)++rest)[f]? = _
   grind
  |succ k=>
   show((bu ss y++flat (.agg ss) ys)++rest)[(k+1)*ss.length+f]? = _;rw[DE,Fy (by rw[cC,FB];omega),cC]
   grind
theorem Bl {ss:List Sc} {xs:List (jX ss)} {rest:List AF} {k f:Nat} {x y:jX ss} {v:AF} (hx:xs[k]? =some x) (b:f<ss.length) (c:bu ss y=(bu ss x).set f v):(flat (.agg ss) xs++rest).set (k*ss.length+f) v=flat (.agg ss) (xs.set k y)++rest:=by
 induction xs generalizing k with
 |nil=>simp at hx
 |cons z a d=>
  cases k with
  |zero=>
   have e:f<(bu ss z).length:=by rw[cC];exact b
   simp only[GH,B5];show((bu ss z++flat (.agg ss) a)++rest).set f v=(bu ss y++flat (.agg ss) a)++rest
   grind
  |succ k=>
   show((bu ss z++flat (.agg ss) a)++rest).set _ v=(bu ss z++flat _ _)++rest;rw[DE,List.set_append_right _ _ (by rw[cC,FB];omega),cC]
   grind
abbrev gW (room:Int) (ps:List PT):List AF:=flat eQ ps++[aa room]
def ix (g i:Int):Nat:=(g - 1).toNat*32+i.toNat
def sW (room g i:Int):Bool:=gI g&&(decide (0<=i)&&decide (i<room))
def oQ (room:Int) (ps:List PT) (g i:Int):Option Nat:=if sW room g i=true/\ps.getD (ix g i) zP≠zP then some (ix g i) else none
structure okS (room:Int) (ps:List PT):Prop where
 len:ps.length=512
 lo:1<=room
 hi:room<=32
theorem nK {g:Int}:gI g=true<->1<=g/\g<=16:=by simp[gI]
theorem fo {room g i:Int}:sW room g i=true<->(1<=g/\g<=16)/\0<=i/\i<room:=by simp[sW,nK]
theorem pj {room g i:Int} (h:sW room g i=true) (a:room<=32):ix g i<512:=by grind[fo,ix]
theorem Pv {room g i g' a:Int} (h:sW room g i=true) (h':sW room g' a=true) (b:room<=32) (e:ix g i=ix g' a):g=g'/\i=a:=by grind[fo,ix]
theorem okS.get {room:Int} {ps:List PT} (h:okS room ps) {k:Nat} (a:k<512):ps[k]? =some (ps.getD k zP):=by
 rw[B3,Ae (by rw[h.len];grind)];rfl
theorem okS.set {room:Int} {ps:List PT} (h:okS room ps) (k:Nat) (x:PT):okS room (ps.set k x):=⟨by rw[Fz];exact h.len,h.lo,h.hi⟩
theorem fA {room:Int} {ps:List PT} {g i:Int} {k:Nat} (h:oQ room ps g i=some k):sW room g i=true/\k=ix g i/\ps.getD k zP≠zP:=by grind[oQ]
theorem qg {room:Int} {ps:List PT} (h:okS room ps):ly (gW room ps) (0+2560) (.one (.int .i64))=some room:=by
 have:(gW room ps)[2560]? =some (aa room):=by
  rw[Fy (by rw[aF,h.len];decide),aF,h.len];rfl
 show(match (gW room ps)[0+2560]? with|some v=>(Sc.int _).proj v|none=>none)=some room;rw[this];rfl
theorem isZ (x:PT):(x.fst==0&&(x.snd.fst==0&&(x.snd.snd.fst==0&&(x.snd.snd.snd.fst==false&&(x.snd.snd.snd.snd.fst==false&&true)))))=decide (x=zP):=by
 obtain⟨a,b,c,d,e,u⟩:=x;rw[Bool.eq_iff_iff];simp[zP]
theorem rG {room:Int} {ps:List PT} {k f:Nat} {x:PT} (hx:ps[k]? =some x) (a:f<5) {s:Sc} {y:s.T} (b:(match (bu sQ x)[f]? with|some v=>s.proj v|none=>none)=some y):ly (gW room ps) (k*5+f) (.one s)=some y:=by
 show(match (gW room ps)[k*5+f]? with|some v=>s.proj v|none=>none)=some y;have:=Jf (ss:=sQ) (rest:=[aa room]) hx a
 simp_all
section
variable {D G:List Nat} {w0 w:A0} {L:List (Nat×List AF)}
theorem aC.rG (j:Nat) (H:aM D G w0 w L) {bp k f:Nat} {room:Int} {ps:List PT} {x:PT} (y:PT) {v:AF} {K:A0->Prop} (a:L[j]? =some (bp,gW room ps)) (hx:ps[k]? =some x) (b:f<5) (hv:v.oneCell'=true) (c:bu sQ y=(bu sQ x).set f v)
 (d: ∀w1,aM D G w0 w1 (L.set j (bp,gW room (ps.set k y)))->K w1):aC w (ad (some ⟨bp,k*5,none⟩) f) [v] K:=by
 refine aC.gP j H a hv ?_ λw1 h1=>d w1 ?_
 ·rw[GJ];have:(flat eQ ps).length=ps.length*5:=aF eQ ps
  grind
 ·have e:(gW room ps).set _ v=gW room _:=Bl hx b c
  grind
end
section
variable {w:A0} {bp:Nat} {room:Int} {ps:List PT}
theorem pL (h:bO w bp (gW room ps)) (hs:okS room ps):aE A2 211 (.el (.one .bool)) [ah (ae bp)] w (λx w'=>x=true/\Ext w w'):=by
 refine ai (AJ (Q8 _ w _) ?_);refine⟨λ_=>rfl,λ_=>rfl,aj.lz (At.start [] w) h (by simp) (qg hs) λw1 h1=>⟨?_,h1⟩⟩;have:=hs.lo
 grind
def cw (bp:Nat) (room:Int) (ps:List PT) (g i:Int):Option AC:=(oQ room ps g i).map λk=>⟨bp,k*5,none⟩
theorem DQ (h:bO w bp (gW room ps)) (hs:okS room ps) (g i:Int):aE A2 213 (.el (.one .ptr)) [ah (ae bp),aa g,aa i] w (λx w'=>x=cw bp room ps g i/\Ext w w'):=by
 refine ai (C:=R1) (aW:=λ_=>[]) (AJ (OS _ g i w _) ?_);refine⟨true,af.of (s:= .el (.one .bool)) λw' h'=>pL (h.ext h') hs,λ_=>trivial,λ_=>rfl,λ_=>rfl,aj.lz (At.start [] w) h (by simp) (qg hs) ?_⟩;have n:=hs.lo;have b:=hs.hi;refine ab (λc w1 h1=>⟨?_,h1⟩) (λc=>?_)
 ·have d: ¬ sW room g i=true:=by
   rw[fo];intro f;have j:gI g=true:=nK.2 f.1;rw[j] at c;simp at c;omega
  unfold cw oQ;rw[ao (λhc=>d hc.1)];rfl
 ·have a:sW room g i=true:=by
   grind[fo,nK,gI]
  have o:=fo.1 a;have k:=pj a b;have hx:=hs.get k;have es:a6 .i64 g 1=g - 1:=bF (by omega) (by omega);rw[es];have l:ad (ad (ad (ae bp) 0) ((g - 1).toNat*160)) (i.toNat*5)=some ⟨bp,ix g i*5,none⟩:=by
   rw[aY,aY,aY];unfold ix;congr 2;omega
  have m:ad (ad (ae bp) 0) ((g - 1).toNat*160)=some ⟨bp,0+0+(g - 1).toNat*160,none⟩:=by rw[aY,aY]
  rw[l,m];refine⟨rfl,rfl,⟨rfl,by omega,by omega⟩,⟨rfl,by omega,by omega⟩,rfl,aj.of (ps.getD (ix g i) zP) ?_ ?_⟩
  ·have:=fV (e:=eQ) (rest:=[aa room]) h hx;rw[aY,B5] at this;exact this
  ·rw[isZ];refine ab (λc2 w1 h1=>⟨?_,h1⟩) (λc2 w1 h1=>⟨?_,h1⟩)
   ·unfold cw oQ
    grind
   ·unfold cw oQ;rw[av ⟨a,of_decide_eq_false c2⟩];rfl
def rS (g r:Int):Int:=if !gI g|| !gI r||g==r then 1 else 0
theorem ZU (h:bO w bp (gW room ps)) (hs:okS room ps) (g r:Int):aE A2 229 (.el (.one (.int .i64))) [ah (ae bp),aa g,aa r] w (λx w'=>x=rS g r/\Ext w w'):=by
 refine ai (C:=R1) (aW:=λ_=>[]) (AJ (ZS _ g r w _) ?_);refine⟨true,af.of (s:= .el (.one .bool)) λw' h'=>pL (h.ext h') hs,an rfl ⟨trivial,λ_=>trivial,ab (λc w1 h1=>⟨?_,h1⟩) (λc w1 h1=>⟨?_,h1⟩)⟩⟩
 ·unfold rS;rw[av c]
 ·unfold rS;grind
theorem Vj (h:bO w bp (gW room ps)) (hs:okS room ps):aE A2 231 (.el (.one (.int .i64))) [ah (ae bp)] w (λx w'=>x=4/\Ext w w'):=by
 refine ai (C:=R1) (AJ (Vi _ w _) ?_);exact⟨true,af.of λw' h'=>pL (h.ext h') hs,an rfl λw1 h1=>⟨rfl,h1⟩⟩
def cH (room:Int) (ps:List PT) (g:Int):Int:=match (Ct room.toNat).find? λ(i:Nat)=>(oQ room ps g i).isNone with
 |some i=>(i:Int)
 |none=> -1
theorem Ri (h:bO w bp (gW room ps)) (hs:okS room ps) (g:Int):aE A2 245 (.el (.one (.int .i64))) [ah (ae bp),aa g] w (λx w'=>x=cH room ps g/\Ext w w'):=by
 refine ai (C:=R1) (aW:=ui) (AJ (Q9 _ g w _) ?_);have k:=hs.lo;have l:=hs.hi;refine⟨rfl,rfl,aj.lz (At.start [] w) h (by simp) (qg hs) ?_⟩;refine⟨λq s w'=> ∃i:Nat,s.1=i/\q+i=room.toNat/\(∀j:Nat,j<i->(oQ room ps g j).isNone=false)/\Ext w w',⟨room.toNat,λw1 h1=>⟨0,rfl,rfl,λj d=>absurd d (by omega),h1⟩⟩,?_⟩;rintro q ⟨m,u⟩ w1 ⟨i,hi,n,f,b⟩;simp only at hi;subst hi;dsimp only;refine ab (λc=>?_) (λc e a=>⟨?_,b.trans a⟩)
 ·have o:i<room.toNat:=by simp at c;omega
  refine⟨_,af.of (s:= .el (.one .ptr)) λw' h'=>DQ ((h.ext b).ext h') hs g i,ab (λc2 e a=>⟨?_,b.trans a⟩) (λc2 e a=>⟨q - 1,by omega,i+1,by rw[ay (by omega) (by omega)];rfl,by omega,λj d=>?_,b.trans a⟩)⟩
  ·grind[oQ,cw,Ct,IB,cH]
  ·rcases Nat.lt_or_ge j i with h1|h1
   ·exact f j h1
   ·obtain rfl:j=i:=by omega
    unfold cw at c2;simpa using c2
 ·have:(Ct room.toNat).find? (λ(i:Nat)=>(oQ room ps g i).isNone)=none:=by
   grind
  unfold cH;rw[this]
theorem m7 {room:Int} {ps:List PT} {g:Int} (hg:gI g=true) (h:cH room ps g≠ -1):sW room g (cH room ps g)=true/\oQ room ps g (cH room ps g)=none:=by
 unfold cH at h ⊢;split
 ·rename_i hi;rw[IB] at hi;have:=Fk.1 hi.2.1;exact⟨fo.2 ⟨nK.1 hg,by omega⟩,by simp_all⟩
 grind
end
end Go.Proofs.YtlcenllcmeebhaaGreat.Po
namespace Go.Proofs.YtlcenllcmeebhaaGreat
set_option maxRecDepth 100000
open Go.RX
theorem Ap {L Ls:List (Nat×List AF)} {k:Nat} {x:Nat×List AF} (h:L[k]? =some x):(L++Ls)[k]? =some x:=by
 grind
theorem B7.len {Ls:List (Nat×List AF)} {sl:Option AC×Nat×Nat} {xs:List Int} (h:B7 Ls sl xs):sl.2.1=xs.length:=by
 rcases h with ⟨rfl,rfl,rfl⟩|⟨bs,c,rest,rfl, _⟩
 ·rfl
 ·rfl
theorem B7.rd {D G:List Nat} {w0 w:A0} {L Ls:List (Nat×List AF)} {sl:Option AC×Nat×Nat} {xs:List Int} (h:B7 Ls sl xs) (H:aM D G w0 w L) (a: ∀y∈Ls,y∈L) {i:Nat} {x:Int} (hx:xs[i]? =some x):sl.1.isSome=true/\cU w (ad sl.1 (i*1)) (.one (.int .i64)) x:=by
 rcases h with ⟨rfl,rfl,rfl⟩|⟨bs,c,rest,rfl,rfl, _⟩
 ·grind
 ·exact⟨rfl,fV (H.dj _ (a _ DV)) hx⟩
section
variable {D G:List Nat} {w0 w:A0} {L:List (Nat×List AF)} {bg br c:Nat} {gs:List GT} {rest:List AF}
theorem Gq {Ls:List (Nat×List AF)} {a:Nat} {x:Int} {xs:List Int} {sl:Option AC×Nat×Nat} (H:aM D G w0 w ((a,[aa x])::(L++Ls))) (hs:B7 Ls sl xs) (hb:xs.length<=900000) {t:Bs}
 {R:Option AC×Nat×Nat->A0->Prop} (k: ∀b d w',B7 b d (xs++[x])->aM D G w0 w' (L++b)->R d w'):
 mJ w t 1 8 ⟨[aa 0]⟩ sl (some ⟨a,0,none⟩,1,1) R:=by
 refine aM.abq (e:=eI) (H.perm (.cons _ FJ)) (by simp) hs rfl rfl rfl (by grind) λbs c rest w' f g h=>k _ _ w' (.inr ⟨bs,c,rest,rfl,rfl,f,g⟩) (h.perm ?_);simp
theorem Lx (H:aM D G w0 w L) (j q:Nat) (h:L[j]? =some (bg,mK br gs.length c)) (r:L[q]? =some (br,flat eG gs++rest)) (h0:0<gs.length) (F:gs.length<=64) {K:Option AC×Nat×Nat->A0->Prop}
 (k: ∀sl Ls a,B7 Ls sl (dh gs e9 gs.length)->aM D G w0 a (L++Ls)->K sl a):
 aA A2 208 (.el (.one .slice)) [ah (ae bg),.func (.func 210) #[] #[]] w K:=by
 refine aA.go H λw1 H=>ai (C:=G3) (aW:=ri) (AJ (K8 _ w1 K) ?_);have hg: ∀{w:A0} {L1:List (Nat×List AF)},aM D G w0 w (L++L1)->bO w bg (mK br gs.length c)/\bO w br (flat eG gs++rest):=λ{w L1} H=>⟨H.get (Ap h),H.get (Ap r)⟩;refine⟨_,pK (H.get h) h0,an rfl ⟨rfl,rfl,aj.cw j H h rfl ?_⟩⟩;refine⟨λn v w'=> ∃(m:Nat) (Ls:List (Nat×List AF)),v.2.1=(m:Int)/\n+m=gs.length/\B7 Ls v.1 (dh gs e9 m)/\aM D G w0 w' (L++Ls),⟨gs.length,λa s=>⟨0,[],rfl,rfl,.inl ⟨rfl,rfl,rfl⟩,by rw[Cg];exact H.ext s⟩⟩,?_⟩;clear H;rintro n ⟨sl,v,u⟩ a ⟨m,Ls,e,I,f,H⟩;dsimp only at e f ⊢;subst e;refine ab (λi=>?_) (λi=>?_)
 ·have o:m<gs.length:=by simpa using i
  have hx:gs[m]? =some (gs.getD m zG):=by
   grind
  have t:aH .i64 (m:Int) 1=((m+1:Nat):Int):=by rw[ay (by omega) (by omega)];omega
  have g:=sw gs e9 m;obtain⟨x,y⟩: ∃x,x=gs.getD m zG:=⟨_,rfl⟩;rw[<-y] at hx g;rw[t];have J:=qw gs e9 m;refine⟨⟨rfl,by omega,by omega⟩,aj.of x (fV (e:=eG) (hg H).2 hx) (aN.go H λb p H=>aC.all 0 H rfl rfl rfl λM H=>aj.at 0 H rfl (show _=some x from rfl) ?_)⟩;refine⟨trivial,?_⟩;refine ab (λd=>aN.go H λN O H=>λz l=>?_) (λd=>λz l=>⟨n - 1,by omega,m+1,Ls,rfl,by omega,?_,?_⟩)
  ·have d:e9 x=true:=d;rw[av d] at g;have H:=H.ext l;have H:=H.sub (.cons_cons _ (Ar _ _));refine Gq H f (by omega) λA P Q B H=>λR E=>⟨n - 1,by omega,m+1,A,rfl,by omega,?_,H.ext E⟩;rw[g];exact B
  ·have d: ¬ e9 x=true:=by
    have d:e9 x=false:=d;rw[d];decide
   rw[g,ao d,Cg];exact f
  ·exact(H.sub (Ar _ _)).ext l
 ·have o:m=gs.length:=by
   have: ¬ m<gs.length:=by simpa using i
   omega
  subst o;exact au.go H λp H=>k sl Ls p f H
theorem Ly (H:aM D G w0 w L) (j y:Nat) (f:L[j]? =some (bg,mK br gs.length c)) (z:L[y]? =some (br,flat eG gs++rest)) (h0:0<gs.length) (N:gs.length<=64) {bc:Nat} {o q t:Int} (hc:(bc,[aa o,aa q,aa t,.bool false,aa 0])∈L) {K:Option AC×Nat×Nat->A0->Prop}
 (k: ∀sl Ls a,B7 Ls sl (dh gs (kr o q t) gs.length)->aM D G w0 a (L++Ls)->K sl a):
 aA A2 208 (.el (.one .slice)) [ah (ae bg),.func (.func 226) #[] #[ah (ae bc)]] w K:=by
 refine aA.go H λw1 H=>ai (C:=G3) (aW:=rj) (AJ (K9 _ _ w1 K) ?_);have hg: ∀{w:A0} {L1:List (Nat×List AF)},aM D G w0 w (L++L1)->bO w bg (mK br gs.length c)/\bO w br (flat eG gs++rest):=λ{w L1} H=>⟨H.get (Ap f),H.get (Ap z)⟩;refine⟨_,pK (H.get f) h0,an rfl ⟨rfl,rfl,aj.cw j H f rfl ?_⟩⟩;refine⟨λn v w'=> ∃(m:Nat) (Ls:List (Nat×List AF)),v.2.1=(m:Int)/\n+m=gs.length/\B7 Ls v.1 (dh gs (kr o q t) m)/\aM D G w0 w' (L++Ls),⟨gs.length,λa A=>⟨0,[],rfl,rfl,.inl ⟨rfl,rfl,rfl⟩,by rw[Cg];exact H.ext A⟩⟩,?_⟩;clear H;rintro n ⟨sl,v,u⟩ a ⟨m,Ls,e,O,g,H⟩;dsimp only at e g ⊢;subst e;refine ab (λh=>?_) (λh=>?_)
 ·have p:m<gs.length:=by simpa using h
  have hx:gs[m]? =some (gs.getD m zG):=by
   grind
  have B:aH .i64 (m:Int) 1=((m+1:Nat):Int):=by rw[ay (by omega) (by omega)];omega
  have i:=sw gs (kr o q t) m;obtain⟨x,E⟩: ∃x,x=gs.getD m zG:=⟨_,rfl⟩;rw[<-E] at hx i;rw[B];have P:=qw gs (kr o q t) m;refine⟨⟨rfl,by omega,by omega⟩,aj.of x (fV (e:=eG) (hg H).2 hx) (aN.go H λb r H=>aC.all 0 H rfl rfl rfl λQ H=>aj.at 0 H rfl (show _=some x from rfl) ?_)⟩;refine⟨_,Vh (H.dj _ (Bx _ (DL _ hc))) x,?_⟩;refine ab (λd=>aN.go H λF R H=>λs l=>?_) (λd=>λs l=>⟨n - 1,by omega,m+1,Ls,rfl,by omega,?_,?_⟩)
  ·have d:(kr o q t) x=true:=d;rw[av d] at i;have H:=H.ext l;have H:aM D G w0 s ((F,[aa (m:Int)])::(L++Ls)):=H.sub (.cons_cons _ (Ar _ _));refine Gq H g (by omega) λI S T J H=>λU M=>⟨n - 1,by omega,m+1,I,rfl,by omega,?_,H.ext M⟩;rw[i];exact J
  grind
  ·exact(H.sub (Ar _ _)).ext l
 ·have p:m=gs.length:=by
   have: ¬ m<gs.length:=by simpa using h
   omega
  subst p;exact au.go H λr H=>k sl Ls r g H
theorem Lz (H:aM D G w0 w L) (j s:Nat) (f:L[j]? =some (bg,mK br gs.length c)) (t:L[s]? =some (br,flat eG gs++rest)) (h0:0<gs.length) (J:gs.length<=64) {bc:Nat} {g:Int} (hc:(bc,[aa g])∈L) {K:Option AC×Nat×Nat->A0->Prop}
 (k: ∀sl Ls a,B7 Ls sl (dh gs (oT g) gs.length)->aM D G w0 a (L++Ls)->K sl a):
 aA A2 208 (.el (.one .slice)) [ah (ae bg),.func (.func 209) #[] #[ah (ae bc)]] w K:=by
 refine aA.go H λw1 H=>ai (C:=G3) (aW:=rk) (AJ (K_ _ _ w1 K) ?_);have hg: ∀{w:A0} {L1:List (Nat×List AF)},aM D G w0 w (L++L1)->bO w bg (mK br gs.length c)/\bO w br (flat eG gs++rest):=λ{w L1} H=>⟨H.get (Ap f),H.get (Ap t)⟩;refine⟨_,pK (H.get f) h0,an rfl ⟨rfl,rfl,aj.cw j H f rfl ?_⟩⟩;refine⟨λn v w'=> ∃(m:Nat) (Ls:List (Nat×List AF)),v.2.1=(m:Int)/\n+m=gs.length/\B7 Ls v.1 (dh gs (oT g) m)/\aM D G w0 w' (L++Ls),⟨gs.length,λa y=>⟨0,[],rfl,rfl,.inl ⟨rfl,rfl,rfl⟩,by rw[Cg];exact H.ext y⟩⟩,?_⟩;clear H;rintro n ⟨sl,v,u⟩ a ⟨m,Ls,e,M,h,H⟩;dsimp only at e h ⊢;subst e;refine ab (λi=>?_) (λi=>?_)
 ·have p:m<gs.length:=by simpa using i
  have hx:gs[m]? =some (gs.getD m zG):=by
   grind
  have z:aH .i64 (m:Int) 1=((m+1:Nat):Int):=by rw[ay (by omega) (by omega)];omega
  have l:=sw gs (oT g) m;obtain⟨x,A⟩: ∃x,x=gs.getD m zG:=⟨_,rfl⟩;rw[<-A] at hx l;rw[z];have N:=qw gs (oT g) m;refine⟨⟨rfl,by omega,by omega⟩,aj.of x (fV (e:=eG) (hg H).2 hx) (aN.go H λb q H=>aC.all 0 H rfl rfl rfl λO H=>aj.at 0 H rfl (show _=some x from rfl) ?_)⟩;refine⟨_,Q5 (H.dj _ (Bx _ (DL _ hc))) x,?_⟩;refine ab (λd=>aN.go H λB P H=>λr o=>?_) (λd=>λr o=>⟨n - 1,by omega,m+1,Ls,rfl,by omega,?_,?_⟩)
  ·have d:(oT g) x=true:=d;rw[av d] at l;have H:=H.ext o;have H:aM D G w0 r ((B,[aa (m:Int)])::(L++Ls)):=H.sub (.cons_cons _ (Ar _ _));refine Gq H h (by omega) λE Q R F H=>λS I=>⟨n - 1,by omega,m+1,E,rfl,by omega,?_,H.ext I⟩;rw[l];exact F
  grind
  ·exact(H.sub (Ar _ _)).ext o
 ·have p:m=gs.length:=by
   have: ¬ m<gs.length:=by simpa using i
   omega
  subst p;exact au.go H λq H=>k sl Ls q h H
theorem Ce (H:aM D G w0 w L) (a:Nat) (b:L[a]? =some (br,flat eG gs++rest)) {k:Nat} {x:GT} (hx:gs[k]? =some x) {f:Nat} (c:f<5) {s:Sc} {y:s.T} (d:(match (bu sG x)[f]? with|some v=>s.proj v|none=>none)=some y):cU w (ad (some ⟨br,k*5,none⟩) f) (.one s) y:=by
 rw[aY];refine dV (H.get b) ?_;have h:=Po.Jf (ss:=sG) (rest:=rest) hx c;show(match (flat eG gs++rest)[k*5+f]? with|some v=>s.proj v|none=>none)=some y
 simp_all
theorem aaK (H:aM D G w0 w L) (a:Nat) (b:L[a]? =some (br,flat eG gs++rest)) {k:Nat} {x:GT} (hx:gs[k]? =some x) {f:Nat} (c:f<5) {v:AF} (hv:v.oneCell'=true) (y:GT) (d:bu sG y=(bu sG x).set f v) {K:A0->Prop} (kk: ∀w1,aM D G w0 w1 (L.set a (br,flat eG (gs.set k y)++rest))->K w1):aC w (ad (some ⟨br,k*5,none⟩) f) [v] K:=by
 have e:=(B1.1 hx).1;refine aC.gP a H b hv ?_ λw1 h1=>kk w1 ?_
 ·rw[GJ,Ds,aF];show k*5+f<gs.length*5+rest.length;omega
 ·have h:=Po.Bl (rest:=rest) hx c d
  grind
theorem ZV (h:bO w bg (mK br gs.length c)) (d:bO w br (flat eG gs++rest)) (h0:0<gs.length) (i:Int):
 aE A2 176 (.bA [eG,.one .bool]) [ah (ae bg),aa i] w (λx w'=>x=(wZ gs i,(l_ gs i).isSome,())/\Ext w w'):=by
 refine aS (C:=G3) (aW:=λ_=>[]) (AJ (ZJ _ i w _) ?_);have H:=At.start [] w;refine aN.go H λb f H=>?_;have a:=H.all;refine⟨_,IJ (h.ext a) (d.ext a) h0 i,?_⟩;unfold Cd Cc wZ;cases g:l_ gs i with
 |none=>exact aB rfl (aC.all 0 H rfl rfl rfl λj H=>au.go H λl H=>aj.at 0 H rfl (show _=some zG from rfl) ⟨rfl,H.all⟩)
 |some k=>
  obtain⟨_, _, _,hx, _⟩:=lL g;have m:cU f (some ⟨br,k*5,none⟩) eG (gs.getD k zG):=by
   have:=fV (e:=eG) (d.ext a) hx;rw[aY,B5] at this;exact this
  refine an rfl ⟨rfl,aj.of _ m (aC.all 0 H rfl rfl rfl λj H=>au.go H λl H=>aj.at 0 H rfl (show _=some (gs.getD k zG) from rfl) ⟨rfl,H.all⟩)⟩
theorem Rj (H:aM D G w0 w L) (j f:Nat) (o:L[j]? =some (bg,mK br gs.length c)) (l:L[f]? =some (br,flat eG gs++rest)) (h0:0<gs.length) (p: ∀x∈gs,0<=x.2.2.2.2.1/\x.2.2.2.2.1<=1000) (i g:Int) (b:Bool) {K:Int->A0->Prop}
 (k: ∀a,aM D G w0 a (L.set f (br,flat eG (dK gs i g b)++rest))->K (iq gs i g b) a):
 aA A2 181 (.el (.one (.int .i64))) [ah (ae bg),aa i,aa g,.bool b] w K:=by
 refine aA.go H λw1 H=>ai (C:=G3) (aW:=λ_=>[]) (AJ (Qx _ i g b w1 K) ?_);refine⟨_,IJ (H.get o) (H.get l) h0 i,?_⟩;have same:iq gs i g b≠0-> ∀{a},aM D G w0 a L->aM D G w0 a (L.set f (br,flat eG (dK gs i g b)++rest)):=λh a H=>by
  unfold dK;rw[ao h,Oy l];exact H
 have e:iq gs i g b=match l_ gs i with
  |none=>4
  |some k=>if((gs.getD k zG).2.2.1 != g||b&& !(gs.getD k zG).2.2.2.1)=true then 7 else if(gs.getD k zG).2.2.2.2.1=1000 then 3 else 0:=rfl
 unfold Cd Cc;cases m:l_ gs i with
 |none=>
  rw[m] at e;dsimp only at e;rw[e] at k same;exact aB rfl (au.go H λa H=>k a (same (by decide) H))
 |some q=>
  obtain⟨u,v,r,hx, _⟩:=lL m;rw[m] at e;dsimp only at e;obtain⟨x,n⟩: ∃x,x=gs.getD q zG:=⟨_,rfl⟩;rw[<-n] at e hx;refine an rfl ⟨rfl,rfl,aj.of x.2.2.1 (Ce H f l hx (by decide) rfl) ⟨λ_=>rfl,λ_=>rfl,aj.of x.2.2.2.1 (Ce H f l hx (by decide) rfl) (ab (λd=>au.go H λa H=>?_) (λd=>?_))⟩⟩
  ·rw[av d] at e;rw[e] at k same;exact k a (same (by decide) H)
  ·rw[ao (by rw[d];decide)] at e;refine⟨rfl,rfl,aj.of x.2.2.2.2.1 (Ce H f l hx (by decide) rfl) (ab (λd2=>au.go H λa H=>?_) (λd2=>?_))⟩
   ·grind
   ·rw[ao (by simpa using d2)] at e;have hb:=p x (E5 hx);refine⟨rfl,rfl,aj.of x.2.2.2.2.1 (Ce H f l hx (by decide) rfl) ⟨rfl,rfl,?_⟩⟩;rw[ay (by omega) (by omega)];refine aaK H f l hx (by decide) rfl (fv x 1) rfl λa H=>au.go H λs H=>?_;have t:dK gs i g b=gs.set q (fv x 1):=by
     unfold dK;rw[av e, <-r, <-n]
    rw[e,t] at k;exact k s H
end
section
variable {D G:List Nat} {w0 w:A0} {L:List (Nat×List AF)} {bg br c:Nat} {gs:List GT} {rest:List AF}
theorem Rk (H:aM D G w0 w L) (j e:Nat) (n:L[j]? =some (bg,mK br gs.length c)) (f:L[e]? =some (br,flat eG gs++rest)) (h0:0<gs.length) (o: ∀x∈gs,0<=x.2.2.2.2.1/\x.2.2.2.2.1<=1000) (i g:Int) {K:Int->A0->Prop}
 (k: ∀a,aM D G w0 a (L.set e (br,flat eG (dS gs i g)++rest))->K (mH gs i g) a):
 aA A2 182 (.el (.one (.int .i64))) [ah (ae bg),aa i,aa g] w K:=by
 refine aA.go H λw1 H=>ai (C:=G3) (aW:=λ_=>[]) (AJ (Qy _ i g w1 K) ?_);refine⟨_,IJ (H.get n) (H.get f) h0 i,?_⟩;have same:mH gs i g≠0-> ∀{a},aM D G w0 a L->aM D G w0 a (L.set e (br,flat eG (dS gs i g)++rest)):=λh a H=>by
  unfold dS;rw[ao h,Oy f];exact H
 have b:mH gs i g=match l_ gs i with
  |none=>4
  |some k=>if(gs.getD k zG).2.2.1≠g then 7 else if(gs.getD k zG).2.2.2.2.1=0 then 6 else 0:=rfl
 unfold Cd Cc;cases l:l_ gs i with
 |none=>
  rw[l] at b;dsimp only at b;rw[b] at k same;exact aB rfl (au.go H λa H=>k a (same (by decide) H))
 |some q=>
  obtain⟨t,u,p,hx, _⟩:=lL l;rw[l] at b;dsimp only at b;obtain⟨x,m⟩: ∃x,x=gs.getD q zG:=⟨_,rfl⟩;rw[<-m] at b hx;refine an rfl ⟨rfl,rfl,aj.of x.2.2.1 (Ce H e f hx (by decide) rfl) (ab (λd=>au.go H λa H=>?_) (λd=>?_))⟩
  grind
  ·rw[ao (by simpa using d)] at b;refine⟨rfl,rfl,aj.of x.2.2.2.2.1 (Ce H e f hx (by decide) rfl) (ab (λd2=>au.go H λa H=>?_) (λd2=>?_))⟩
   grind
   ·rw[ao (by simpa using d2)] at b;have hb:=o x (E5 hx);refine⟨rfl,rfl,aj.of x.2.2.2.2.1 (Ce H e f hx (by decide) rfl) ⟨rfl,rfl,?_⟩⟩;rw[bF (by omega) (by omega)];refine aaK H e f hx (by decide) rfl (fv x (-1)) rfl λa H=>au.go H λr H=>?_;have s:dS gs i g=gs.set q (fv x (-1)):=by
     unfold dS;rw[av b, <-p, <-m]
    rw[b,s] at k;exact k r H
theorem Hj (H:aM D G w0 w L) (j f:Nat) (m:L[j]? =some (bg,mK br gs.length c)) (g:L[f]? =some (br,flat eG gs++rest)) (h0:0<gs.length) (i o:Int) {K:Int->A0->Prop}
 (k: ∀a,aM D G w0 a (L.set f (br,flat eG (j9 gs i o)++rest))->K (qY gs i o) a):
 aA A2 184 (.el (.one (.int .i64))) [ah (ae bg),aa i,aa o] w K:=by
 refine aA.go H λw1 H=>ai (C:=G3) (aW:=λ_=>[]) (AJ (Hg _ i o w1 K) ?_);refine⟨_,IJ (H.get m) (H.get g) h0 i,?_⟩;have same:qY gs i o≠0-> ∀{a},aM D G w0 a L->aM D G w0 a (L.set f (br,flat eG (j9 gs i o)++rest)):=λh a H=>by
  unfold j9;rw[ao h,Oy g];exact H
 have b:qY gs i o=match l_ gs i with
  |none=>4
  |some k=>if(gs.getD k zG).1≠o then 7 else if(gs.getD k zG).2.2.2.2.1>0 then 9 else 0:=rfl
 unfold Cd Cc;cases l:l_ gs i with
 |none=>
  rw[l] at b;dsimp only at b;rw[b] at k same;exact aB rfl (au.go H λa H=>k a (same (by decide) H))
 |some q=>
  obtain⟨v,y,n,hx, _⟩:=lL l;rw[l] at b;dsimp only at b;obtain⟨x,p⟩: ∃x,x=gs.getD q zG:=⟨_,rfl⟩;rw[<-p] at b hx;refine an rfl ⟨rfl,rfl,aj.of x.1 (Ce H f g hx (by decide) rfl) (ab (λd=>au.go H λa H=>?_) (λd=>?_))⟩
  grind
  ·rw[ao (by simpa using d)] at b;refine⟨rfl,rfl,aj.of x.2.2.2.2.1 (Ce H f g hx (by decide) rfl) (ab (λd2=>au.go H λa H=>?_) (λd2=>?_))⟩
   grind
   ·rw[ao (by simpa using d2)] at b;refine⟨rfl,?_⟩;have r:q<gs.length:=(B1.1 hx).1;have s:(some (⟨br,q*5,none⟩:AC))=ad (ae br) (q*5):=by rw[aY,B5]
    show aC w1 (some (⟨br,q*5,none⟩:AC)) _ _;rw[s];refine aC.flat (e:=eG) f H zG g rfl rfl r λa H=>au.go H λt H=>?_;have u:j9 gs i o=gs.set q zG:=by
     unfold j9;rw[av b, <-n]
    rw[b,u] at k;exact k t H
theorem LA (H:aM D G w0 w L) (j m:Nat) (s:L[j]? =some (bg,mK br gs.length c)) (p:L[m]? =some (br,flat eG gs++rest)) (h0:0<gs.length) (F:gs.length<=64) (o q t:Int) (b:Bool) {K:Int×Int×Unit->A0->Prop}
 (k: ∀f,aM D G w0 f (L.set m (br,flat eG (jh gs o q t b)++rest))->K (kK gs o q t,lF gs o q t,()) f):
 aA A2 180 (.bA [.one (.int .i64),.one (.int .i64)]) [ah (ae bg),aa o,aa q,aa t,.bool b] w K:=by
 refine aA.go H λw1 H=>ai (C:=G3) (aW:=λ_=>[]) (AJ (La _ o q t b w1 K) ?_);have same:lF gs o q t≠0-> ∀{f},aM D G w0 f L->aM D G w0 f (L.set m (br,flat eG (jh gs o q t b)++rest)):=λh f H=>by
  unfold jh;rw[ao h,Oy p];exact H
 have v:lF gs o q t≠0->kK gs o q t=0:=λh=>ao h;refine⟨_,pK (H.get s) h0,an rfl ⟨trivial,λ_=>trivial,ab (λd=>au.go H λf H=>?_) (λd=>?_)⟩⟩
 ·have a:lF gs o q t=1:=av d;rw[v (by rw[a];decide),a] at k;rw[a] at same;exact k f (same (by decide) H)
 have a:lF gs o q t=if dh gs (kr o q t) gs.length≠[] then 5 else if dh gs e9 gs.length=[] then 3 else 0:=ao (by rw[d];decide);refine aN.go H λbc f H=>aC.all 0 H rfl rfl rfl λW H=>Ly H (j+1) (m+1) s p h0 F (bc:=bc) (DV) λsl Ls X n H=>?_;obtain⟨sp,A,sc⟩:=sl;have B:A=(dh gs (kr o q t) gs.length).length:=n.len;subst B;have H:=H.sub (Db _ Ls);refine ab (λd1=>au.go H λI H=>?_) (λd1=>?_)
 ·have d1:dh gs (kr o q t) gs.length≠[]:=by
   intro e;rw[e] at d1;simp at d1
  rw[av d1] at a;rw[v (by rw[a];decide),a] at k;rw[a] at same;exact k I (same (by decide) (H.sub (Ar _ _)))
 have d1: ¬ dh gs (kr o q t) gs.length≠[]:=by
  simp_all
 rw[ao d1] at a;refine Lx H (j+1) (m+1) s p h0 F λsl Ls I n H=>?_;obtain⟨sp,A,sc⟩:=sl;have B:A=(dh gs e9 gs.length).length:=n.len;subst B;refine ab (λd2=>au.go H λJ H=>?_) (λd2=>?_)
 ·have d2:dh gs e9 gs.length=[]:=by
   have:(dh gs e9 gs.length).length=0:=by simpa using d2
   exact List.length_eq_zero_iff.1 this
  rw[av d2] at a;rw[v (by rw[a];decide),a] at k;rw[a] at same;exact k J (same (by decide) (H.sub ((Db L Ls).trans (Ar _ _))))
 have d2: ¬ dh gs e9 gs.length=[]:=by
  intro e;rw[e] at d2;simp at d2
 rw[ao d2] at a;have M:jh gs o q t b=gs.set (kK gs o q t).toNat (o,q,t,b,0,()):=av a;have N:kK gs o q t=(dh gs e9 gs.length).headD 0:=av a;rw[M,a] at k;obtain⟨z,l,u⟩: ∃z l,dh gs e9 gs.length=z::l:=List.exists_cons_of_ne_nil d2;have O:kK gs o q t=z:=by rw[N,u];rfl
 rw[O] at k;obtain⟨r,P, _,Q⟩:=qv.1 (by rw[u];exact DV:z∈dh gs e9 gs.length);subst Q;rw[u] at n;have Y:(dh gs e9 gs.length).length=l.length+1:=by rw[u];rfl
 have R: ∀{w:A0} {g:Nat×List AF},aM D G w0 w (g::(L++Ls))->sp.isSome=true/\cU w (ad sp 0) (.one (.int .i64)) (r:Int):=λ{w g} H=>by
  have h:=n.rd H (λy E=>Bx _ (BW _ E)) (i:=0) (x:=(r:Int)) rfl;exact⟨h.1,h.2⟩
 have S:(L++Ls)[j]? =some (bg,mK br gs.length c):=Ap s;have T:(L++Ls)[m]? =some (br,flat eG gs++rest):=Ap p;refine⟨rfl,aC.gP 0 H rfl rfl rfl λJ H=>?_⟩;refine⟨rfl,rfl,aj.cw (j+1) H S rfl ⟨by grind,aj.of _ (R H).2 (aj.at 0 H rfl (show _=some (o,q,t,b,0,()) from rfl) ⟨⟨rfl,by omega,by show(r:Int)<((gs.length:Nat):Int);omega⟩,?_⟩)⟩⟩;refine aC.flat (e:=eG) (m+1) H (o,q,t,b,0,()) T rfl rfl P λU H=>?_;have H:aM D G w0 U ((bc,[aa o,aa q,aa t,.bool b,aa 0])::((L++Ls).set m (br,flat eG (gs.set r (o,q,t,b,0,()))++rest))):=H;rw[G1 _ _ (B1.1 p).1] at H;have h:=n.rd H (λy E=>Bx _ (BW _ E)) (i:=0) (x:=(r:Int)) rfl;refine⟨by grind,aj.of _ h.2 (au.go H λV H=>k V (H.sub ((Db _ Ls).trans (Ar _ _))))⟩
theorem Rm (H:aM D G w0 w L) (j a:Nat) (x:L[j]? =some (bg,mK br gs.length c)) (o:L[a]? =some (br,flat eG gs++rest)) (h0:0<gs.length) (A:gs.length<=64) (Q:j≠a) (g:Int) {K:Int->A0->Prop}
 (k: ∀n p,aM D G w0 p (L.set a (br,flat eG (cP gs g)++rest))->K n p):
 aA A2 169 (.el (.one (.int .i64))) [ah (ae bg),aa g] w K:=by
 refine aA.go H λw1 H=>ai (C:=G3) (aW:=uh) (AJ (Qz _ g w1 K) ?_);refine aN.go H λbc p H=>Lz H (j+1) (a+1) x o h0 A (bc:=bc) (DV) λsl Ls B q H=>?_;have H:aM D G w0 B ((bc,[aa g])::(L++Ls)):=H;have H:aM D G w0 B (L++Ls):=H.sub (Ar _ _);obtain⟨sp,R,sc⟩:=sl;have S:R=(dh gs (oT g) gs.length).length:=q.len;subst S;obtain⟨l,d⟩: ∃l,l=dh gs (oT g) gs.length:=⟨_,rfl⟩;have hll:l.length<=64:=by rw[d];exact Do (qw _ _ _) A
 have E: ∀z∈l, ∃i:Nat,i<gs.length/\oT g (gs.getD i zG)=true/\z=(i:Int):=λz F=>by rw[d] at F;exact qv.1 F
 have T: ∀i:Nat,i<gs.length->oT g (gs.getD i zG)=true->(i:Int)∈l:=λi h1 r=>by rw[d];exact qv.2 ⟨i,h1,r,rfl⟩
 rw[<-d] at q ⊢;clear d;have U:=(B1.1 o).1;have I: ∀X:Nat×List AF,((L++Ls).set a X)=L.set a X++Ls:=λX=>G1 _ _ U;refine⟨λn v w'=> ∃(m:Nat) (hs:List GT),v.1=(m:Int)/\n+m=l.length/\hs.length=gs.length/\(∀i:Nat,i<gs.length->hs.getD i zG=if(i:Int)∈l.take m then zG else gs.getD i zG)/\aM D G w0 w' ((L++Ls).set a (br,flat eG hs++rest)),⟨l.length,λV W=>⟨0,gs,rfl,rfl,rfl,λi hi=>by simp,by rw[Oy (Ap o)];exact H.ext W⟩⟩,?_⟩;clear H;rintro n ⟨v,u⟩ V ⟨m,hs,e,hn,J,s,H⟩;dsimp only at e ⊢;subst e;refine ab (λt=>?_) (λt=>au.go H λM H=>k _ M ?_)
 ·have N:m<l.length:=by simpa using t
  have hx:=Ae N;obtain⟨z,Y⟩: ∃z,z=l[m]:=⟨_,rfl⟩;rw[<-Y] at hx;obtain⟨b,z1,z2,rfl⟩:=E z (E5 hx);have Z:l.take (m+1)=l.take m++[(b:Int)]:=by rw[IP,hx];rfl
  have O:=q.rd H (λy hy=>by rw[I];exact BW _ hy) hx;have hmb:((L++Ls).set a (br,flat eG hs++rest))[j]? =some (bg,mK br hs.length c):=by
   rw[J,E4 (λe=>Q e.symm)];exact Ap x
  have hwb:((L++Ls).set a (br,flat eG hs++rest))[a]? =some (br,flat eG hs++rest):=by
   rw[Dn (by rw[Ds];omega)]
  refine⟨⟨O.1,by omega,by omega⟩,aj.of _ O.2 ⟨rfl,rfl,aj.cw j H hmb rfl ⟨⟨rfl,by omega,by show(b:Int)<((hs.length:Nat):Int);omega⟩,?_⟩⟩⟩;refine aC.flat (e:=eG) a H zG hwb rfl rfl (by omega:b<hs.length) λM H=>λw6 P=>⟨n - 1,by omega,m+1,hs.set b zG,by rw[ay (by omega) (by omega)];omega,by omega,by rw[Fz];exact J,λi hi=>?_,?_⟩
  ·rw[Z];by_cases ei:i=b
   ·subst ei;rw[av (by simp)];rw[B3,Dn (by omega)];rfl
   ·have:(hs.set b zG).getD i zG=hs.getD i zG:=by
     grind
    rw[this,s i hi];by_cases f:(i:Int)∈l.take m
    ·rw[av f,av (DL _ f)]
    ·rw[ao f,ao (λh=>?_)];rcases HB.1 h with h|h
     ·exact f h
     ·have:(i:Int)=b:=by simpa using h
      omega
  ·rw[Ci] at H;exact H.ext P
 ·have N: ¬ m<l.length:=by simpa using t
  rw[Dw (by omega)] at s;have e:hs=cP gs g:=Dk λi=>by
   unfold cP;rw[IR];by_cases hi:i<gs.length
   ·have h1:=s i hi;have r:hs[i]? =some (hs.getD i zG):=by rw[B3,Ae (by omega)];rfl
    have h3:gs[i]? =some (gs.getD i zG):=by rw[B3,Ae hi];rfl
    rw[r,h3,h1];show _=some (if oT g (gs.getD i zG)=true then zG else gs.getD i zG);by_cases c:oT g (gs.getD i zG)=true
    ·rw[av c,av (T i hi c)]
    ·rw[ao c,ao (λh=>?_)];obtain⟨i', _,h5,P⟩:=E _ h;have:i'=i:=by omega
     subst this;exact c h5
   ·rw[In (by omega),In (by omega)];rfl
  subst e;rw[I] at H;exact H.sub (Db _ _)
theorem Vk (H:aM D G w0 w L) (n:Nat) (c:1<=n/\n<=64) {K:Option AC×Int×Unit->A0->Prop}
 (k: ∀bg br a,aM D G w0 a ((bg,mK br (B4 n zG).length n)::(br,flat eG (B4 n zG)++[])::L)->K (some ⟨bg,0,none⟩,0,()) a):
 aA A2 73 (.bA [.one .ptr,.one (.int .i64)]) [aa (n:Int)] w K:=by
 refine aA.go H λw1 H=>ai (C:=G3) (AJ (UZ _ w1 K) ?_);refine an (by grind) ?_;refine NV.go H rfl (by omega) (Int.le_refl _) (by omega) (by omega) λb a H=>aN.go H λd f H=>au.go H λg H=>?_;have e:(B4 ((n:Nat):Int).toNat [aa 0,aa 0,aa 0,.bool false,aa 0]).flatten=flat eG (B4 n zG)++[]:=by
  rw[Cg,lT];rfl
 grind
end
end Go.Proofs.YtlcenllcmeebhaaGreat
namespace Go.Proofs.YtlcenllcmeebhaaGreat.Po
set_option maxRecDepth 100000
open Go.RX
def gp (ps:List PT) (g i:Int):PT:=ps.getD (ix g i) zP
def dR (room:Int) (ps:List PT) (g:Int) (x:PT):(Int×Int)×List PT:=if cH room ps g= -1 then((0,3),ps) else((cH room ps g,0),ps.set (ix g (cH room ps g)) x)
def ji (room:Int) (ps:List PT) (g r:Int):(Int×Int)×List PT:=if rS g r=0 then dR room ps g (1,r,0,false,false,()) else((0,rS g r),ps)
def iB (room:Int) (ps:List PT) (g r i:Int):(Int×Int)×List PT:=
 if rS g r=0 then
  match oQ room ps r i with
  |none=>((0,4),ps)
  |some k=>
   if(ps.getD k zP).1=2 then((0,6),ps) else if(ps.getD k zP).2.1≠g then((0,7),ps) else
    if cH room ps g= -1 then((0,3),ps) else
     ((cH room ps g,0),(ps.set (ix g (cH room ps g)) (2,r,i,false,false,())).set k (2,(ps.getD k zP).2.1,cH room ps g,(ps.getD k zP).2.2.2))
 else((0,rS g r),ps)
def lG (room:Int) (ps:List PT) (g i:Int):Int×List PT:=
 match oQ room ps g i with
 |none=>(4,ps)
 |some k=>if(ps.getD k zP).1=2 then
   let y:=gp ps (ps.getD k zP).2.1 (ps.getD k zP).2.2.1
   (0,ps.set (ix (ps.getD k zP).2.1 (ps.getD k zP).2.2.1) (y.1,y.2.1,y.2.2.1,true,y.2.2.2.2))
  else(6,ps)
def vL (ps:List PT) (g:Int) (i:Nat):Bool:=gI g&&((gp ps g i).2.2.2.1&& !(gp ps g i).2.2.2.2.1)
def pk (room:Int) (ps:List PT) (g:Int):List Int:=((Ct room.toNat).filter (vL ps g)).map λi=>((i:Nat):Int)
def g_ (room:Int) (ps:List PT) (g:Int):(Int×Bool)×List PT:=
 match pk room ps g with
 |[]=>((0,false),ps)
 |i:: _=>((i,true),ps.set (ix g i) ((gp ps g i).1,(gp ps g i).2.1,(gp ps g i).2.2.1,false,(gp ps g i).2.2.2.2))
def eM (room:Int) (ps:List PT) (g i:Int):Int×List PT:=
 match oQ room ps g i with
 |none=>(4,ps)
 |some k=>if(ps.getD k zP).1=2 then
   let y:=gp ps (ps.getD k zP).2.1 (ps.getD k zP).2.2.1
   (0,(ps.set (ix (ps.getD k zP).2.1 (ps.getD k zP).2.2.1) (1,y.2.1,0,y.2.2.2)).set k zP)
  else(0,ps.set k zP)
def iC (room:Int) (ps:List PT) (g:Int):Nat->Int×List PT
 |0=>(0,ps)
 |i+1=>((iC room ps g i).1+(if(eM room (iC room ps g i).2 g i).1=0 then 1 else 0),(eM room (iC room ps g i).2 g i).2)
def pq (room g:Int) (s:Int×List PT) (k i:Int):Int×List PT:=
 match oQ room s.2 k i with
 |none=>s
 |some x=>if(s.2.getD x zP).2.1=g then(s.1+1,s.2.set x zP) else s
def mR (room g:Int) (s:Int×List PT) (k:Int):Nat->Int×List PT
 |0=>s
 |i+1=>pq room g (mR room g s k i) k i
def kL (room g:Int) (s:Int×List PT):Nat->Int×List PT
 |0=>s
 |k+1=>mR room g (kL room g s k) ((k:Int)+1) room.toNat
def cG (room:Int) (ps:List PT) (g:Int):Int×List PT:=if gI g then kL room g (iC room ps g room.toNat) 16 else(0,ps)
structure ma (room:Int) (ps:List PT):Prop extends okS room ps where
 inv: ∀g i,sW room g i=true->gp ps g i=zP\/((gp ps g i).1=1/\(1<=(gp ps g i).2.1/\(gp ps g i).2.1<=16)/\(gp ps g i).2.1≠g/\(gp ps g i).2.2.1=0)\/
  ((gp ps g i).1=2/\(gp ps g i).2.1≠g/\sW room (gp ps g i).2.1 (gp ps g i).2.2.1=true/\(gp ps (gp ps g i).2.1 (gp ps g i).2.2.1).1=2/\(gp ps (gp ps g i).2.1 (gp ps g i).2.2.1).2.1=g/\(gp ps (gp ps g i).2.1 (gp ps g i).2.2.1).2.2.1=i)
theorem AD {ps:List PT} {k:Nat} (h:k<ps.length) (x:PT):(ps.set k x).getD k zP=x:=by grind
theorem pY {ps:List PT} {k j:Nat} (h:k≠j) (x:PT):(ps.set k x).getD j zP=ps.getD j zP:=by grind
theorem jm {room:Int} {ps:List PT} (hs:okS room ps) {g i g' a:Int} (h:sW room g i=true) (h':sW room g' a=true) (x:PT):gp (ps.set (ix g i) x) g' a=if g'=g/\a=i then x else gp ps g' a:=by
 by_cases e:g'=g/\a=i
 ·rw[av e,e.1,e.2];exact AD (by rw[hs.len];exact pj h hs.hi) x
 ·rw[ao e];exact pY (λb=>e (by have:=Pv h h' hs.hi;grind)) x
theorem u_ {room:Int} {ps:List PT} {g i:Int} (h:sW room g i=true):oQ room ps g i=if gp ps g i=zP then none else some (ix g i):=by grind[oQ,gp]
theorem qh {g r:Int}:rS g r=0<->gI g=true/\gI r=true/\g≠r:=by grind[rS]
section
variable {D G:List Nat} {w0 w:A0} {L:List (Nat×List AF)} {bp:Nat} {room:Int} {ps:List PT}
theorem FU (H:aM D G w0 w L) (j:Nat) (a:L[j]? =some (bp,gW room ps)) (hs:okS room ps) (g i:Int) {r:Option Nat} (hx:oQ room ps g i=r):af A2 213 [ah (ae bp),aa g,aa i] w (ah (r.map λk=>⟨bp,k*5,none⟩)):=by
 subst hx;exact af.of λw' h'=>DQ ((H.get a).ext h') hs g i
theorem Xx (H:aM D G w0 w L) (j:Nat) (a:L[j]? =some (bp,gW room ps)) (hs:okS room ps) (g i:Int):af A2 229 [ah (ae bp),aa g,aa i] w (aa (rS g i)):=
 af.of λw' h'=>ZU ((H.get a).ext h') hs g i
theorem Px (H:aM D G w0 w L) (j:Nat) (a:L[j]? =some (bp,gW room ps)) (hs:okS room ps):af A2 231 [ah (ae bp)] w (aa 4):=
 af.of λw' h'=>Vj ((H.get a).ext h') hs
theorem Vl (H:aM D G w0 w L) (j:Nat) (a:L[j]? =some (bp,gW room ps)) (hs:okS room ps):af A2 211 [ah (ae bp)] w (.bool true):=
 af.of λw' h'=>pL ((H.get a).ext h') hs
theorem kY {j:Nat} {x y:Nat×List AF} (h:L[j]? =some x):(L.set j y)[j]? =some y:=by grind
theorem Py (H:aM D G w0 w L) (j:Nat) (r:L[j]? =some (bp,gW room ps)) (hs:okS room ps) (g:Int) (hg:gI g=true) (x:PT) {K:Int×Int×Unit->A0->Prop}
 (k: ∀l,aM D G w0 l (L.set j (bp,gW room (dR room ps g x).2))->K ((dR room ps g x).1.1,(dR room ps g x).1.2,()) l):
 aA A2 230 (.bA [.one (.int .i64),.one (.int .i64)]) [ah (ae bp),aa g,.agg ⟨bu sQ x⟩] w K:=by
 obtain⟨a,d,f,h,i,m⟩:=x;refine aA.go H λw1 H=>ai (C:=R1) (aW:=λ_=>[]) (AJ (ZT _ g a d f h i w1 K) ?_);have t:=hs.hi;refine aN.go H λb l H=>?_;have o:((b,bu sQ (a,d,f,h,i,()))::L)[j+1]? =some (bp,gW room ps):=r;refine⟨cH room ps g,af.of (s:= .el (.one (.int .i64))) λw' h'=>Ri ((H.get o).ext h') hs g,ab (λc=>?_) (λc=>?_)⟩
 ·have e:cH room ps g= -1:=by simpa using c
  have n:dR room ps g (a,d,f,h,i,m)=((0,3),ps):=av e;rw[n] at k;refine au.go H λp H=>k p ?_;have u:L.set j (bp,gW room ps)=L:=Dk (by grind);rw[u];exact H.sub (Ar _ _)
 ·have e:cH room ps g≠ -1:=by simpa using c
  have n:dR room ps g (a,d,f,h,i,m)=((cH room ps g,0),ps.set (ix g (cH room ps g)) (a,d,f,h,i,m)):=ao e;rw[n] at k;have q:=(m7 hg e).1;have B:=fo.1 q;have v:=pj q t;have es:a6 .i64 g 1=g - 1:=bF (by omega) (by omega);rw[es];have y:ad (ad (ad (ae bp) 0) ((g - 1).toNat*160)) ((cH room ps g).toNat*5)=ad (ae bp) (ix g (cH room ps g)*aD eQ):=by
   rw[aY,aY,aY,aY];unfold ix;congr 2;show _=0+ _*5;omega
  have z:ad (ad (ae bp) 0) ((g - 1).toNat*160)=some ⟨bp,0+0+(g - 1).toNat*160,none⟩:=by rw[aY,aY]
  rw[y,z];refine aj.at 0 H rfl (x:=(a,d,f,h,i,())) rfl ⟨rfl,rfl,⟨rfl,by omega,by omega⟩,⟨rfl,by omega,by omega⟩,?_⟩;refine aC.flat (j+1) H (a,d,f,h,i,()) o rfl rfl (by rw[hs.len];exact v) λp H=>au.go H λA H=>k A ?_;exact H.sub (Ar _ _)
theorem lM {j:Nat} {x:Nat×List AF} (h:L[j]? =some x):L.set j x=L:=Dk (by grind)
theorem Rn (H:aM D G w0 w L) (j:Nat) (a:L[j]? =some (bp,gW room ps)) (hs:okS room ps) (g r:Int) {K:Int×Int×Unit->A0->Prop}
 (k: ∀b,aM D G w0 b (L.set j (bp,gW room (ji room ps g r).2))->K ((ji room ps g r).1.1,(ji room ps g r).1.2,()) b):
 aA A2 185 (.bA [.one (.int .i64),.one (.int .i64)]) [ah (ae bp),aa g,aa r] w K:=by
 refine aA.go H λw1 H=>ai (C:=R1) (AJ (Q_ _ g r w1 K) ?_);refine⟨_,Xx H j a hs g r,ab (λc=>?_) (λc=>?_)⟩
 ·have e:=by simpa using c
  have d:ji room ps g r=((0,rS g r),ps):=ao e;rw[d] at k;refine au.go H λf H=>k f ?_;rw[lM a];exact H
 ·have e:rS g r=0:=by simpa using c
  have d:ji room ps g r=dR room ps g _:=av e;rw[d] at k;exact Py H j a hs g (qh.1 e).1 (1,r,0,false,false,()) λb H=>au.go H λf H=>k f H
theorem Ro (H:aM D G w0 w L) (j:Nat) (a:L[j]? =some (bp,gW room ps)) (hs:okS room ps) (g r i:Int) {K:Int×Int×Unit->A0->Prop}
 (k: ∀f,aM D G w0 f (L.set j (bp,gW room (iB room ps g r i).2))->K ((iB room ps g r i).1.1,(iB room ps g r i).1.2,()) f):
 aA A2 186 (.bA [.one (.int .i64),.one (.int .i64)]) [ah (ae bp),aa g,aa r,aa i] w K:=by
 refine aA.go H λw1 H=>ai (C:=R1) (aW:=λ_=>[]) (AJ (Ra _ g r i w1 K) ?_);have h: ∀v:Int×Int,iB room ps g r i=(v,ps)->au w1 λw1=>K (v.1,v.2,()) w1:=λv e=>by
  rw[e] at k;refine au.go H λd H=>k d ?_;rw[lM a];exact H
 refine⟨_,Xx H j a hs g r,ab (λc=>?_) (λc=>?_)⟩
 ·have e: ¬ rS g r=0:=by simpa using c
  exact h (0,rS g r) (ao e)
 have e:rS g r=0:=by simpa using c
 obtain⟨hg,B,y⟩:=qh.1 e;have hb:iB room ps g r i= _:=av e;refine⟨_,FU H j a hs r i rfl,?_⟩;cases hx:oQ room ps r i with
 |none=>
  rw[hx] at hb;exact aB rfl (h (0,4) hb)
 |some kk=>
  rw[hx] at hb;obtain⟨n,o,E⟩:=fA hx;have p:kk<512:=by rw[o];exact pj n hs.hi
  have q:=hs.get p;refine an rfl ⟨rfl,rfl,aj.cw j H a (rG q (by decide) rfl) (ab (λc1=>?_) (λc1=>?_))⟩
  ·exact h (0,6) (hb.trans (av (by simpa using c1)))
  refine⟨rfl,rfl,aj.cw j H a (rG q (by decide) rfl) (ab (λc2=>?_) (λc2=>?_))⟩
  grind
  have s:=hb.trans ((ao (by simpa using c1)).trans (ao (by simpa using c2)));refine Py H j a hs g hg (2,r,i,false,false,()) λf H=>?_;by_cases b:cH room ps g= -1
  ·have l:dR room ps g (2,r,i,false,false,())=((0,3),ps):=av b;rw[l] at H ⊢;have m:iB room ps g r i=((0,3),ps):=s.trans (av b);rw[m] at k;exact an rfl (au.go H λd H=>k d H)
  ·have l:dR room ps g (2,r,i,false,false,())=((cH room ps g,0),ps.set (ix g (cH room ps g)) (2,r,i,false,false,())):=ao b;rw[l] at H ⊢;have z:ix g (cH room ps g)≠kk:=λt=>by
    rw[o] at t;exact y (Pv (m7 hg b).1 n hs.hi t).1
   have m:iB room ps g r i=((cH room ps g,0), _):=s.trans (ao b);rw[m] at k;have u:=(hs.set (ix g (cH room ps g)) (2,r,i,false,false,())).get p;rw[pY z] at u;refine aB rfl ⟨rfl,rfl,?_⟩;refine aC.rG j H (2,(ps.getD kk zP).2.1,(ps.getD kk zP).2.2.1,(ps.getD kk zP).2.2.2.1,(ps.getD kk zP).2.2.2.2.1,()) (kY a) u (by decide) rfl rfl λd H=>⟨rfl,rfl,?_⟩;rw[Ci] at H;refine aC.rG j H (x:=(2,(ps.getD kk zP).2.1,(ps.getD kk zP).2.2.1,(ps.getD kk zP).2.2.2.1,(ps.getD kk zP).2.2.2.2.1,())) (2,(ps.getD kk zP).2.1,cH room ps g,(ps.getD kk zP).2.2.2.1,(ps.getD kk zP).2.2.2.2.1,()) (kY a) (by grind) (by decide) rfl rfl λF H=>au.go H λA H=>k A ?_;rw[Ci,Ci] at H;exact H
end
theorem ma.nz {room:Int} {ps:List PT} (f:ma room ps) {g i:Int} {k:Nat} (h:oQ room ps g i=some k) (a:(ps.getD k zP).1=2):
 (ps.getD k zP).2.1≠g/\sW room (ps.getD k zP).2.1 (ps.getD k zP).2.2.1=true/\oQ room ps (ps.getD k zP).2.1 (ps.getD k zP).2.2.1=some (ix (ps.getD k zP).2.1 (ps.getD k zP).2.2.1):=by
 obtain⟨j,l,b⟩:=fA h;subst l;have m:ps.getD (ix g i) zP=gp ps g i:=rfl;rw[m] at a b ⊢;rcases f.inv g i j with e|e|⟨_,n,c,d,p⟩
 ·exact absurd e b
 ·rw[e.1] at a;exact absurd a (by decide)
 ·refine⟨n,c,?_⟩;rw[u_ c,ao];intro o;rw[o] at d;exact absurd d (by decide)
theorem zC {room:Int} {ps:List PT} {g i:Int} {k:Nat} (hx:oQ room ps g i=some k):lG room ps g i=if(ps.getD k zP).1=2 then(0,ps.set (ix (ps.getD k zP).2.1 (ps.getD k zP).2.2.1) ((gp ps (ps.getD k zP).2.1 (ps.getD k zP).2.2.1).1,(gp ps (ps.getD k zP).2.1 (ps.getD k zP).2.2.1).2.1,(gp ps (ps.getD k zP).2.1 (ps.getD k zP).2.2.1).2.2.1,true,(gp ps (ps.getD k zP).2.1 (ps.getD k zP).2.2.1).2.2.2.2)) else(6,ps):=by
 unfold lG;rw[hx]
theorem pS {room:Int} {ps:List PT} {g i:Int} {k:Nat} (hx:oQ room ps g i=some k):eM room ps g i=if(ps.getD k zP).1=2 then(0,(ps.set (ix (ps.getD k zP).2.1 (ps.getD k zP).2.2.1) (1,(gp ps (ps.getD k zP).2.1 (ps.getD k zP).2.2.1).2.1,0,(gp ps (ps.getD k zP).2.1 (ps.getD k zP).2.2.1).2.2.2)).set k zP) else(0,ps.set k zP):=by
 unfold eM;rw[hx]
theorem Hk {room:Int} {ps:List PT} {g i:Int} (hx:oQ room ps g i=none):lG room ps g i=(4,ps):=by unfold lG;rw[hx]
theorem wg {room:Int} {ps:List PT} {g i:Int} (hx:oQ room ps g i=none):eM room ps g i=(4,ps):=by unfold eM;rw[hx]
section
variable {D G:List Nat} {w0 w:A0} {L:List (Nat×List AF)} {bp:Nat} {room:Int} {ps:List PT}
theorem Rq (H:aM D G w0 w L) (j:Nat) (a:L[j]? =some (bp,gW room ps)) (c:ma room ps) (g i:Int) {K:Int->A0->Prop}
 (k: ∀d,aM D G w0 d (L.set j (bp,gW room (lG room ps g i).2))->K (lG room ps g i).1 d):
 aA A2 187 (.el (.one (.int .i64))) [ah (ae bp),aa g,aa i] w K:=by
 refine aA.go H λw1 H=>ai (C:=R1) (aW:=λ_=>[]) (AJ (Rb _ g i w1 K) ?_);have hs:=c.tookS;have f: ∀v:Int,lG room ps g i=(v,ps)->au w1 λw1=>K v w1:=λv e=>by
  rw[e] at k;refine au.go H λh H=>k h ?_;rw[lM a];exact H
 refine⟨_,FU H j a hs g i rfl,?_⟩;cases hx:oQ room ps g i with
 |none=>exact aB rfl ⟨4,Px H j a hs,f 4 (by unfold lG;rw[hx])⟩
 |some kk=>
  obtain⟨m,n,u⟩:=fA hx;have o:kk<512:=by rw[n];exact pj m hs.hi
  have b:=hs.get o;have hb:=zC hx;refine an rfl ⟨rfl,rfl,aj.cw j H a (rG b (by decide) rfl) (ab (λc1=>?_) (λc1=>?_))⟩
  ·exact f 6 (hb.trans (ao (by simpa using c1)))
  have l:(ps.getD kk zP).1=2:=by simpa using c1
  rw[hb,av l] at k;obtain⟨x,p,q⟩:=c.nz hx l;have r:=pj p hs.hi;have s:=hs.get r;refine⟨rfl,rfl,aj.cw j H a (rG b (by decide) rfl) ⟨rfl,rfl,aj.cw j H a (rG b (by decide) rfl) ⟨_,FU H j a hs _ _ q,rfl,rfl,?_⟩⟩⟩;exact aC.rG j H (_, _, _,true, _,()) a s (by decide) rfl rfl λh H=>au.go H λt H=>k t H
theorem aC.port (j:Nat) (H:aM D G w0 w L) (a:L[j]? =some (bp,gW room ps)) {k:Nat} (b:k<ps.length) (y:PT) {vs:List AF} (hv:vs=bu sQ y) {K:A0->Prop}
 (c: ∀w1,aM D G w0 w1 (L.set j (bp,gW room (ps.set k y)))->K w1):aC w (some ⟨bp,k*5,none⟩) vs K:=by
 have:=aC.flat j H (e:=eQ) (rest:=[aa room]) (i:=k) y a hv rfl b c;rw[aY,B5] at this;exact this
theorem Bm (H:aM D G w0 w L) (j:Nat) (a:L[j]? =some (bp,gW room ps)) (h:ma room ps) (g i:Int) {K:Int->A0->Prop}
 (k: ∀l,aM D G w0 l (L.set j (bp,gW room (eM room ps g i).2))->K (eM room ps g i).1 l):
 aA A2 189 (.el (.one (.int .i64))) [ah (ae bp),aa g,aa i] w K:=by
 refine aA.go H λw1 H=>ai (C:=R1) (aW:=λ_=>[]) (AJ (Lv _ g i w1 K) ?_);have hs:=h.tookS;refine⟨_,FU H j a hs g i rfl,?_⟩;cases hx:oQ room ps g i with
 |none=>
  have e:eM room ps g i=(4,ps):=by unfold eM;rw[hx]
  rw[e] at k;refine aB rfl ⟨4,Px H j a hs,au.go H λm H=>k m ?_⟩;rw[lM a];exact H
 |some kk=>
  obtain⟨q,r,v⟩:=fA hx;have b:kk<512:=by rw[r];exact pj q hs.hi
  have c:=hs.get b;have hb:=pS hx;refine an rfl ⟨rfl,rfl,aj.cw j H a (rG c (by decide) rfl) (ab (λc1=>?_) (λc1=>?_))⟩
  ·have n:(ps.getD kk zP).1=2:=by simpa using c1
   rw[hb,av n] at k;obtain⟨z,s,t⟩:=h.nz hx n;have d:=pj s hs.hi;have o:=hs.get d;refine⟨rfl,rfl,aj.cw j H a (rG c (by decide) rfl) ⟨rfl,rfl,aj.cw j H a (rG c (by decide) rfl) ⟨_,FU H j a hs _ _ t,rfl,rfl,?_⟩⟩⟩;obtain⟨y,p⟩: ∃y,y=gp ps (ps.getD kk zP).2.1 (ps.getD kk zP).2.2.1:=⟨_,rfl⟩;rw[<-p] at k;have o:ps[ix (ps.getD kk zP).2.1 (ps.getD kk zP).2.2.1]? =some y:=by rw[p];exact hs.get d
   refine aC.rG j H (1,y.2.1,y.2.2.1,y.2.2.2.1,y.2.2.2.2.1,()) a o (by decide) rfl rfl λm H=>⟨rfl,rfl,?_⟩;refine aC.rG j H (x:=(1,y.2.1,y.2.2.1,y.2.2.2.1,y.2.2.2.2.1,())) (1,y.2.1,0,y.2.2.2.1,y.2.2.2.2.1,()) (kY a) (by rw[Dn (by rw[hs.len];exact d)]) (by decide) rfl rfl λA H=>⟨rfl,?_⟩;rw[Ci,Ci] at H;refine aC.port j H (kY a) (by rw[Fz,hs.len];exact b) zP rfl λu H=>au.go H λf H=>k f ?_;rw[Ci] at H;exact H
  ·rw[hb,ao (by simpa using c1)] at k;exact⟨rfl,aC.port j H a (by rw[hs.len];exact b) zP rfl λu H=>au.go H λf H=>k f H⟩
end
section
variable {room:Int} {ps:List PT}
theorem ma.Y4 (a:ma room ps) {g i:Int} (h:sW room g i=true) (k:(gp ps g i).1≠2) {y:PT} (l:y=zP\/(y.1=1/\(1<=y.2.1/\y.2.1<=16)/\y.2.1≠g/\y.2.2.1=0)):ma room (ps.set (ix g i) y) where
 tookS:=a.tookS.set _ _
 inv g' b h':=by
  by_cases e:g'=g/\b=i
  ·have d:=(jm a.tookS h h' y).trans (av e)
   grind
  ·have d:=(jm a.tookS h h' y).trans (ao e);rw[d];rcases a.inv g' b h' with z|z|⟨m,n,f,o⟩
   ·grind
   grind
   ·have j: ¬ ((gp ps g' b).2.1=g/\(gp ps g' b).2.2.1=i):=λc=>by grind
    have p:=(jm a.tookS h f y).trans (ao j)
    grind
theorem ma.td (c:ma room ps) {g i:Int} (h:sW room g i=true) (m:gp ps g i≠zP) {y:PT} (h1:y.1=(gp ps g i).1) (n:y.2.1=(gp ps g i).2.1) (o:y.2.2.1=(gp ps g i).2.2.1):ma room (ps.set (ix g i) y) where
 tookS:=c.tookS.set _ _
 inv g' d h':=by
  have key: ∀a b,sW room a b=true->(gp _ a b).1=(gp ps a b).1/\(gp _ a b).2.1=(gp ps a b).2.1/\(gp _ a b).2.2.1=(gp ps a b).2.2.1:=λa b f=>by
   by_cases e:a=g/\b=i
   ·rw[(jm c.tookS h f y).trans (av e),e.1,e.2];grind
   ·rw[(jm c.tookS h f y).trans (ao e)];simp
  obtain⟨j,k,l⟩:=key g' d h';rw[j,k,l];rcases c.inv g' d h' with z|z|⟨p,q,r,s,t,u⟩
  ·refine .inl ?_;by_cases e:g'=g/\d=i
   grind
   ·rw[(jm c.tookS h h' y).trans (ao e)];exact z
  ·simp_all
  grind
theorem ma.dR (a:ma room ps) {g:Int} (hg:gI g=true) {y:PT} (b:y.1=1/\(1<=y.2.1/\y.2.1<=16)/\y.2.1≠g/\y.2.2.1=0):ma room (dR room ps g y).2:=by
 unfold Go.Proofs.YtlcenllcmeebhaaGreat.Po.dR;split
 ·grind
 ·rename_i c;obtain⟨h1,d⟩:=m7 hg c;rw[u_ h1] at d;have e:gp ps g (cH room ps g)=zP:=by
   grind
  exact a.Y4 h1 (by rw[e];decide) (.inr b)
theorem ma.ji (a:ma room ps) (g r:Int):ma room (ji room ps g r).2:=by
 unfold Go.Proofs.YtlcenllcmeebhaaGreat.Po.ji;split
 ·rename_i e;obtain⟨h1,b,c⟩:=qh.1 e;exact a.dR h1 ⟨rfl,nK.1 b,λe=>c e.symm,rfl⟩
 grind
theorem ma.iB (d:ma room ps) (g r i:Int):ma room (iB room ps g r i).2:=by
 unfold Go.Proofs.YtlcenllcmeebhaaGreat.Po.iB;split
 ·rename_i e;obtain⟨h1,y,A⟩:=qh.1 e;split
  ·exact d
  ·rename_i k hx;split
   ·exact d
   ·split
    ·exact d
    ·split
     ·exact d
     ·rename_i m p q;obtain⟨l,s⟩:=m7 h1 q;rw[u_ l] at s;have n:gp ps g (cH room ps g)=zP:=by
       grind
      obtain⟨p1,p2,p3⟩:=fA hx;subst p2;have t:ps.getD (ix r i) zP=gp ps r i:=rfl;rw[t] at m p p3 ⊢;generalize cH room ps g=j at l n;have hs:=d.tookS;have key: ∀a b,sW room a b=true->gp _ a b=if a=r/\b=i then(2,(gp ps r i).2.1,j,(gp ps r i).2.2.2) else if a=g/\b=j then(2,r,i,false,false,()) else gp ps a b:=λa b o=>by
       rw[jm (hs.set _ _) p1 o,jm hs l o]
      have u:=(hs.set (ix g j) (2,r,i,false,false,())).set (ix r i) (2,(gp ps r i).2.1,j,(gp ps r i).2.2.2);refine⟨u,λg' f h'=>?_⟩;rw[key g' f h'];by_cases v:g'=r/\f=i
      grind
      ·rw[ao v];by_cases w:g'=g/\f=j
       grind
       ·rw[ao w];rcases d.inv g' f h' with z|z|⟨B,C,x,h,D,E⟩
        ·exact .inl z
        ·exact .inr (.inl z)
        ·rw[key _ _ x,ao,ao]
         grind
         ·intro c;rw[c.1,c.2,n] at h;exact absurd h (by decide)
         ·intro c;rw[c.1,c.2] at h;exact m h
 ·exact d
theorem ma.lG (a:ma room ps) (g i:Int):ma room (lG room ps g i).2:=by
 cases hx:oQ room ps g i with
 |none=>rw[Hk hx];grind
 |some=>
  rw[zC hx];split
  ·rename_i b;obtain⟨_,c,d⟩:=a.nz hx b;obtain⟨_, _,e⟩:=fA d;exact a.td c e rfl rfl rfl
  grind
theorem y9 {g x:Int} (h:x∈pk room ps g):sW room g x=true/\(gp ps g x).2.2.2.1=true/\(gp ps g x).2.2.2.2.1=false:=by
 unfold pk at h;rw[Cj] at h;obtain⟨j,b,rfl⟩:=h;rw[Hq] at b;have:=Fk.1 b.1;have a:=b.2;unfold vL at a;simp at a;exact⟨fo.2 ⟨nK.1 a.1,by omega⟩,a.2.1,a.2.2⟩
theorem Jg {g x:Int} (h:x∈pk room ps g):gp ps g x≠zP:=λe=>by
 have:=(y9 h).2.1;rw[e] at this;cases this
theorem ma.g_ (b:ma room ps) (g:Int):ma room (g_ room ps g).2:=by
 unfold Go.Proofs.YtlcenllcmeebhaaGreat.Po.g_;cases c:pk room ps g with
 |nil=>grind
 |cons x=>
  have a:x∈pk room ps g:=by grind
  exact b.td (y9 a).1 (Jg a) rfl rfl rfl
theorem ma.eM (c:ma room ps) (g i:Int):ma room (eM room ps g i).2:=by
 cases hx:oQ room ps g i with
 |none=>rw[wg hx];exact c
 |some k=>
  rw[pS hx];obtain⟨p1,p2,p3⟩:=fA hx;have hs:=c.tookS;split
  ·rename_i d;obtain⟨h,e, _⟩:=c.nz hx d;subst p2;have o:ps.getD (ix g i) zP=gp ps g i:=rfl;rw[o] at d h e p3 ⊢;have hi:=c.inv g i p1;rcases hi with z|z|⟨_, _, _,c4,c5,c6⟩
   ·exact absurd z p3
   grind
   obtain⟨r,p⟩: ∃r,r=(gp ps g i).2.1:=⟨_,rfl⟩;obtain⟨j,q⟩: ∃j,j=(gp ps g i).2.2.1:=⟨_,rfl⟩;rw[<-p] at h c4 c5 c6 e ⊢;rw[<-q] at c4 c5 c6 e ⊢;have key: ∀a b,sW room a b=true->gp _ a b=if a=g/\b=i then zP else if a=r/\b=j then(1,(gp ps r j).2.1,0,(gp ps r j).2.2.2) else gp ps a b:=λa b l=>by
    rw[jm (hs.set _ _) p1 l,jm hs e l]
   have s:=(hs.set (ix r j) (1,(gp ps r j).2.1,0,(gp ps r j).2.2.2)).set (ix g i) zP;refine⟨s,λg' f h'=>?_⟩;rw[key g' f h'];by_cases m:g'=g/\f=i
   ·rw[av m];exact .inl rfl
   ·rw[ao m];by_cases n:g'=r/\f=j
    ·rw[av n];refine .inr (.inl ⟨rfl,?_,?_,rfl⟩)
     ·rw[c5];exact(fo.1 p1).1
     grind
    ·rw[ao n];rcases c.inv g' f h' with z|z|⟨u,v,t,w,x,y⟩
     ·exact .inl z
     ·exact .inr (.inl z)
     ·rw[key _ _ t,ao,ao]
      grind
      grind
      grind
  ·rename_i d;subst p2;exact c.Y4 p1 d (.inl rfl)
end
section
variable {D G:List Nat} {w0 w:A0} {L:List (Nat×List AF)} {bp:Nat} {room:Int} {ps:List PT}
def AW (ps:List PT) (g:Int) (i:Nat):List Int:=((Ct i).filter (vL ps g)).map λi=>((i:Nat):Int)
theorem Hl (g:Int) (i:Nat):AW ps g (i+1)=AW ps g i++(if vL ps g i then[((i:Nat):Int)] else[]):=by grind[AW,FX]
theorem LB (g:Int) (i:Nat):(AW ps g i).length<=i:=by grind[AW]
theorem Hm {g:Int} {i:Nat} (hi:(i:Int)<room) (hx:oQ room ps g i=none):vL ps g i=false:=by
 grind[vL,sW,u_,zP]
theorem Hn {g:Int} {i:Nat} {k:Nat} (hx:oQ room ps g i=some k):vL ps g i=((ps.getD k zP).2.2.2.1&& !(ps.getD k zP).2.2.2.2.1):=by
 obtain⟨h1,a, _⟩:=fA hx;unfold vL;rw[nK.2 (fo.1 h1).1,a];rfl
theorem Rs (hb:bO w bp (gW room ps)) (hs:okS room ps) (g:Int):aE A2 232 (.el (.one .slice)) [ah (ae bp),aa g] w (λr w'=>lW w w' eI r (pk room ps g)/\Ext w w'):=by
 refine ai (C:=R1) (aW:=uj) (AJ (Re _ g w _) ?_);have y:=hs.lo;have z:=hs.hi;refine⟨true,af.of (s:= .el (.one .bool)) λw' h'=>pL (hb.ext h') hs,an rfl ⟨rfl,rfl,aj.lz (At.start [] w) hb (by simp) (qg hs) ?_⟩⟩;refine⟨λq s w'=> ∃i:Nat,s.2.1=i/\q+i=room.toNat/\At [] w w' []/\lW w w' eI s.1 (AW ps g i),⟨room.toNat,λw1 h1=>⟨0,rfl,rfl,(At.start [] w).ext h1,lW.start w w1 eI⟩⟩,?_⟩;rintro q ⟨⟨sp,A,sc⟩,B,u⟩ w1 ⟨i,hi,D,H,f⟩;simp only at hi f;subst hi;dsimp only;refine ab (λc=>?_) (λc=>?_)
 ·have E:i<room.toNat:=by simp at c;omega
  have a:=Hl (ps:=ps) g i;have F:=LB (ps:=ps) g i;refine⟨_,af.of (s:= .el (.one .ptr)) λw' h'=>DQ ((H.fN hb (by simp)).ext h') hs g i,?_⟩;unfold cw;cases hx:oQ room ps g i with
  |none=>
   rw[Hm (by omega) hx] at a;rw[ao (by decide),Cg] at a;refine⟨λh=>by simp at h,λh=>by simp at h,false,λh=>by simp at h,λh=>by simp at h,λh=>by simp at h,false,λh=>by simp at h,an rfl λj d=>⟨q - 1,by omega,i+1,by rw[ay (by omega) (by omega)];rfl,by omega,H.ext d,by rw[a];exact f.ext d⟩⟩
  |some kk=>
   obtain⟨n,o,G⟩:=fA hx;have p:kk<512:=by rw[o];exact pj n hs.hi
   have l:=hs.get p;rw[Hn hx] at a;refine⟨λ_=>rfl,λ_=>rfl,aj.lz H hb (by simp) (rG l (by decide) rfl) ⟨λ_=>rfl,λ_=>rfl,aj.lz H hb (by simp) (rG l (by decide) rfl) (ab (λc2=>?_) (λc2=>?_))⟩⟩
   ·have c3:((ps.getD kk zP).2.2.2.1&& !(ps.getD kk zP).2.2.2.2.1)=true:=by simpa using c2
    rw[av c3] at a;have k:=At.start [] w1;refine aN.go k λb j k=>λI t=>?_;refine At.abj (e:=eI) (i:=0) H f (k.ext t) (i:Int) rfl rfl rfl rfl rfl (by omega) λs' J v x K m=>⟨q - 1,by omega,i+1,by rw[ay (by omega) (by omega)];rfl,by omega,v.ext m,?_⟩;rw[a];exact x.ext m
   ·have c3: ¬ ((ps.getD kk zP).2.2.2.1&& !(ps.getD kk zP).2.2.2.2.1)=true:=by simpa using c2
    rw[ao c3,Cg] at a;exact λj d=>⟨q - 1,by omega,i+1,by rw[ay (by omega) (by omega)];rfl,by omega,H.ext d,by rw[a];exact f.ext d⟩
 ·have hi:i=room.toNat:=by simp at c;omega
  subst hi;exact λj d=>⟨f.ext d,(H.ext d).all⟩
theorem Ru (H:aM D G w0 w L) (j:Nat) (b:L[j]? =some (bp,gW room ps)) (hs:okS room ps) (g:Int) {K:Option AC×Nat×Nat->A0->Prop}
 (k: ∀r rows a,aM D G w0 a (L++rows)->oq eI rows r (pk room ps g)->K r a):aA A2 232 (.el (.one .slice)) [ah (ae bp),aa g] w K:=
 aA.Y1 H (λw1 H=>Rs (H.get b) hs g) k
theorem zF {rows:List (Nat×List AF)} {r:Option AC×Nat×Nat} {x:Int} {l:List Int} (a:oq eI rows r (x::l)) (H:aM D G w0 w L) (b: ∀y∈rows,y∈L):r.1.isSome=true/\cU w (ad r.1 0) (.one (.int .i64)) x:=by
 have:=a.sl H b 0
 grind
theorem Rv (H:aM D G w0 w L) (j:Nat) (d:L[j]? =some (bp,gW room ps)) (hs:okS room ps) (g:Int) {K:Int×Bool×Unit->A0->Prop}
 (k: ∀f,aM D G w0 f (L.set j (bp,gW room (g_ room ps g).2))->K ((g_ room ps g).1.1,(g_ room ps g).1.2,()) f):
 aA A2 188 (.bA [.one (.int .i64),.one .bool]) [ah (ae bp),aa g] w K:=by
 refine aA.go H λw1 H=>ai (C:=R1) (aW:=λ_=>[]) (AJ (Rf _ g w1 K) ?_);refine Ru H j d hs g λr rows f H c=>?_;have p:j<L.length:=(B1.1 d).1;have i:(L++rows)[j]? =some (bp,gW room ps):=by grind
 have a:=c.1;cases b:pk room ps g with
 |nil=>
  rw[b] at a;have e:g_ room ps g=((0,false),ps):=by unfold g_;rw[b]
  rw[e] at k;refine aB (by rw[a];rfl) (au.go H λm H=>k m ?_);rw[lM d];exact H.sub (Db _ _)
 |cons x l=>
  have n:x∈pk room ps g:=by rw[b];exact DV
  rw[b] at a c;have e:g_ room ps g=((x,true),ps.set (ix g x) ((gp ps g x).1,(gp ps g x).2.1,(gp ps g x).2.2.1,false,(gp ps g x).2.2.2.2)):=by unfold g_;rw[b]
  rw[e] at k;obtain⟨p1, _, _⟩:=y9 n;have hx:oQ room ps g x=some (ix g x):=by rw[u_ p1,ao (Jg n)]
  have q:=pj p1 hs.hi;have s:ps[ix g x]? =some (gp ps g x):=hs.get q;have h0:=zF c H (λy h=>BW _ h);have o:(x::l).length=l.length+1:=rfl;refine an (by rw[a,o];simp;omega) ⟨⟨h0.1,by omega,by rw[a,o];omega⟩,aj.of x h0.2 ⟨_,FU H j i hs g x hx,rfl,rfl,?_⟩⟩;refine aC.rG j H ((gp ps g x).1,(gp ps g x).2.1,(gp ps g x).2.2.1,false,(gp ps g x).2.2.2.2.1,()) i s (by decide) rfl rfl λm H=>?_;rw[G1 _ _ p] at H;have h1:=zF c H (λy h=>BW _ h);refine⟨by grind,aj.of x h1.2 (au.go H λt H=>k t (H.sub (Db _ _)))⟩
theorem tI (a:ma room ps) (g:Int): ∀i,ma room (iC room ps g i).2
 |0=>a
 |i+1=>(tI a g i).eM g i
theorem Eh (g:Int): ∀i:Nat,0<=(iC room ps g i).1/\(iC room ps g i).1<=i
 |0=>by simp[iC]
 |i+1=>by
  have:=Eh g i;simp[iC];omega
theorem LC (b:ma room ps) {g i j:Int} (hi:sW room g i=true) (a:sW room g j=true):gp (eM room ps g i).2 g j=if j=i then zP else gp ps g j:=by
 cases hx:oQ room ps g i with
 |none=>
  rw[wg hx];rw[u_ hi] at hx
  grind
 |some=>
  rw[pS hx];obtain⟨p1,p2,p3⟩:=fA hx;have hs:=b.tookS;split
  ·rename_i c;obtain⟨e,d, _⟩:=b.nz hx c;subst p2;rw[jm (hs.set _ _) p1 a,jm hs d a]
   grind
  ·subst p2;rw[jm hs p1 a]
   grind
theorem Ei (a:ma room ps) {g:Int} (hg:gI g=true): ∀(n:Nat),(n:Int)<=room-> ∀j,0<=j->j<(n:Int)->gp (iC room ps g n).2 g j=zP
 |n+1,d,j,h0,h1=>by
  have b:sW room g n=true:=fo.2 ⟨nK.1 hg,by omega⟩;have c:sW room g j=true:=fo.2 ⟨nK.1 hg,by omega⟩;simp[iC];rw[LC (tI a g n) b c];by_cases e:j=n
  ·grind
  ·rw[ao e];exact Ei a hg n (by omega) j h0 (by omega)
def vM (room:Int) (ps:List PT) (g:Int):Prop:=ma room ps/\ ∀i,sW room g i=true->gp ps g i=zP
theorem Rw {g:Int} (h:vM room ps g) {k i:Int} (hi:sW room k i=true) (d:(gp ps k i).2.1=g):(gp ps k i).1≠2:=by
 intro b;rcases h.1.inv k i hi with z|z|⟨_, _,c,a, _⟩
 ·rw[z] at b;exact absurd b (by decide)
 grind
 ·rw[d] at c a;rw[h.2 _ c] at a;exact absurd a (by decide)
theorem Ho {g:Int} {s:Int×List PT} (h:vM room s.2 g) (k i:Int):vM room (pq room g s k i).2 g:=by
 unfold pq;split
 ·grind
 ·rename_i hx;split
  ·rename_i hg;obtain⟨p1,p2,p3⟩:=fA hx;subst p2;refine⟨h.1.Y4 p1 (Rw h p1 hg) (.inl rfl),λj a=>?_⟩;rw[jm h.1.tookS p1 a];split
   ·rfl
   ·exact h.2 j a
  grind
theorem sy {g:Int} {s:Int×List PT} (h:vM room s.2 g) (k:Int): ∀i,vM room (mR room g s k i).2 g
 |0=>h
 |i+1=>Ho (sy h k i) k i
theorem sK {g:Int} {s:Int×List PT} (h:vM room s.2 g): ∀k,vM room (kL room g s k).2 g
 |0=>h
 |k+1=>sy (sK h k) _ _
theorem Rx {g:Int} (s:Int×List PT) (k i:Int):s.1<=(pq room g s k i).1/\(pq room g s k i).1<=s.1+1:=by grind[pq]
theorem y_ {g:Int} (s:Int×List PT) (k:Int): ∀i:Nat,s.1<=(mR room g s k i).1/\(mR room g s k i).1<=s.1+i
 |0=>by simp[mR]
 |i+1=>by
  have h1:=y_ (g:=g) s k i;have a:=Rx (g:=g) (room:=room) (mR room g s k i) k i;simp[mR];omega
theorem Ej {g:Int} (s:Int×List PT): ∀k:Nat,s.1<=(kL room g s k).1/\(kL room g s k).1<=s.1+k*room.toNat
 |0=>by simp[kL]
 |k+1=>by
  have h1:=Ej (g:=g) s k;have a:=y_ (g:=g) (room:=room);simp[kL]
  grind
theorem zH (a:ma room ps) {g:Int} (hg:gI g=true):vM room (iC room ps g room.toNat).2 g:=by
 exact⟨tI a g _,by grind[Ei,fo]⟩
theorem Ry (a:ma room ps) (g:Int):ma room (cG room ps g).2:=by
 unfold cG;split
 ·rename_i hg;exact(sK (zH a hg) _).1
 grind
theorem Rz (H:aM D G w0 w L) (j:Nat) (d:L[j]? =some (bp,gW room ps)) (t:ma room ps) (g:Int) {K:Int->A0->Prop}
 (k: ∀B,aM D G w0 B (L.set j (bp,gW room (cG room ps g).2))->K (cG room ps g).1 B):
 aA A2 170 (.el (.one (.int .i64))) [ah (ae bp),aa g] w K:=by
 refine aA.go H λw1 H=>ai (C:=R1) (aW:=uk) (AJ (Rh _ g w1 K) ?_);have hs:=t.tookS;have TG:=hs.lo;have O:=hs.hi;refine⟨true,Vl H j d hs,λ_=>trivial,ab (λc=>?_) (λc=>?_)⟩
 ·have hg:gI g=false:=by simpa using c
  have e:cG room ps g=(0,ps):=by unfold cG;rw[hg];rfl
  rw[e] at k;refine au.go H λv H=>k v ?_;rw[lM d];exact H
 have hg:gI g=true:=by simpa using c
 have e:cG room ps g=kL room g (iC room ps g room.toNat) 16:=by unfold cG;rw[av hg]
 rw[e] at k;refine⟨rfl,rfl,aj.cw j H d (qg hs) ?_⟩;refine⟨λq s w'=> ∃i:Nat,s.2.1=i/\q+i=room.toNat/\s.1=(iC room ps g i).1/\aM D G w0 w' (L.set j (bp,gW room (iC room ps g i).2)),⟨room.toNat,λv P=>⟨0,rfl,rfl,rfl,by rw[show(iC room ps g 0).2=ps from rfl,lM d];exact H.ext P⟩⟩,?_⟩;clear H;rintro q ⟨a,Q,u⟩ v ⟨i,hi,hq,l,H⟩;simp only at hi l;subst hi;subst l;dsimp only;have R:=Eh (room:=room) (ps:=ps) g i;refine ab (λc1=>?_) (λc1=>?_)
 ·have S:i<room.toNat:=by simp at c1;omega
  have T:=tI t g i;refine Bm H j (kY d) T g i λE H=>?_;rw[Ci] at H;have n:aH .i64 (i:Int) 1=((i+1:Nat):Int):=by rw[ay (by omega) (by omega)];rfl
  refine ab (λc2 o p=>⟨q - 1,by omega,i+1,n,by omega,?_,H.ext p⟩) (λc2 o p=>⟨q - 1,by omega,i+1,n,by omega,?_,H.ext p⟩)
  ·have c3:(eM room (iC room ps g i).2 g i).1=0:=by simpa using c2
   simp only[iC];rw[av c3,ay (by omega) (by omega)]
  ·have c3: ¬ (eM room (iC room ps g i).2 g i).1=0:=by simpa using c2
   simp only[iC];rw[ao c3,Int.add_zero]
 have hi:i=room.toNat:=by simp at c1;omega
 subst hi;have F:=zH t hg;generalize iC room ps g room.toNat=f at H k F R;refine⟨λq s w'=> ∃m:Nat,s.2.1=(m:Int)+1/\q+m=16/\s.1=(kL room g f m).1/\aM D G w0 w' (L.set j (bp,gW room (kL room g f m).2)),⟨16,λE U=>⟨0,rfl,rfl,rfl,H.ext U⟩⟩,?_⟩;clear H;rintro V ⟨a,m',u2⟩ E ⟨m,I,WR,l,H⟩;simp only at I l;subst I;subst l;dsimp only;have J:=sK F m;have hlA:=Ej (room:=room) (g:=g) f m;have ac4:(m:Int)*(room.toNat:Int)<=16*32:=Int.mul_le_mul (by omega) (by omega) (by omega) (by omega);refine ab (λc2=>?_) (λc2=>?_)
 ·have M:m<16:=by simp at c2;omega
  refine⟨rfl,rfl,aj.cw j H (kY d) (qg J.1.tookS) ?_⟩;refine⟨λq s w'=> ∃i:Nat,s.2.1=i/\q+i=room.toNat/\s.1=(mR room g (kL room g f m) ((m:Int)+1) i).1/\aM D G w0 w' (L.set j (bp,gW room (mR room g (kL room g f m) ((m:Int)+1) i).2)),⟨room.toNat,λo p=>⟨0,rfl,rfl,rfl,H.ext p⟩⟩,?_⟩;clear H;rintro x ⟨a,Q,u3⟩ o ⟨i,hi,hq3,l,H⟩;simp only at hi l;subst hi;subst l;dsimp only;have W:=sy J ((m:Int)+1) i;have hlR:=y_ (room:=room) (g:=g) (kL room g f m) ((m:Int)+1) i;refine ab (λc3=>?_) (λc3=>?_)
  ·have S:i<room.toNat:=by simp at c3;omega
   have n:aH .i64 (i:Int) 1=((i+1:Nat):Int):=by rw[ay (by omega) (by omega)];rfl
   have y:=W.1.tookS;have er:mR room g (kL room g f m) ((m:Int)+1) (i+1)=pq room g (mR room g (kL room g f m) ((m:Int)+1) i) ((m:Int)+1) i:=rfl;generalize mR room g (kL room g f m) ((m:Int)+1) i=b at*
   refine⟨_,FU H j (kY d) y ((m:Int)+1) i rfl,?_⟩;cases hx:oQ room b.2 ((m:Int)+1) i with
   |none=>
    have z:pq room g b ((m:Int)+1) i=b:=by unfold pq;rw[hx]
    rw[z] at er;exact⟨λh=>by simp at h,λh=>by simp at h,(0:Int),λh=>by simp at h,an rfl λA r=>⟨x - 1,by omega,i+1,n,by omega,by rw[er],by rw[er];exact H.ext r⟩⟩
   |some kk=>
    obtain⟨X,Y,hnz⟩:=fA hx;have N:kk<512:=by rw[Y];exact pj X O
    have Z:=y.get N;have z:pq room g b ((m:Int)+1) i=if(b.2.getD kk zP).2.1=g then(b.1+1,b.2.set kk zP) else b:=by unfold pq;rw[hx]
    rw[z] at er;refine⟨λ_=>rfl,λ_=>rfl,aj.cw j H (kY d) (rG Z (by decide) rfl) (ab (λc4=>?_) (λc4=>?_))⟩
    ·have c5:(b.2.getD kk zP).2.1=g:=by simpa using c4
     rw[av c5] at er;refine⟨rfl,aC.port j H (kY d) (by rw[y.len];exact N) zP rfl λA H w7 h7=>⟨x - 1,by omega,i+1,n,by omega,?_,?_⟩⟩
     ·rw[er,ay (by omega) (by omega)]
     ·rw[er];rw[Ci] at H;exact H.ext h7
    ·have c5: ¬ (b.2.getD kk zP).2.1=g:=by simpa using c4
     rw[ao c5] at er;exact λA r=>⟨x - 1,by omega,i+1,n,by omega,by rw[er],by rw[er];exact H.ext r⟩
  ·have hi:i=room.toNat:=by simp at c3;omega
   subst hi;exact λA r=>⟨V - 1,by omega,m+1,by rw[ay (by omega) (by omega)];omega,by omega,rfl,H.ext r⟩
 ·have M:m=16:=by simp at c2;omega
  subst M;exact au.go H λo H=>k o H
end
def Ed (room:Int) (ps:List PT) (u v:Int):Prop:= ∃i,sW room u i=true/\gp ps u i≠zP/\(gp ps u i).2.1=v
inductive Lk (room:Int) (ps:List PT) (a:Int):Int->Prop
 |refl:Lk room ps a a
 |fwd {u v:Int}:Lk room ps a u->Ed room ps u v->Lk room ps a v
 |bwd {u v:Int}:Lk room ps a v->Ed room ps u v->Lk room ps a u
def tv (bs:List Bool) (v:Int):Bool:=bs.getD v.toNat false
def Ka (bs:List Bool):List AF:=bs.map Value.bool
theorem OT {bs:List Bool} {v:Int} (h:v.toNat<bs.length):ly (Ka bs) (0+v.toNat*1) (.one .bool)=some (tv bs v):=by
 have:(Ka bs)[0+v.toNat*1]? =some (.bool (tv bs v)):=by
  unfold Ka tv;rw[B5,Nat.mul_one,IR,Ae h,B3,Ae h];rfl
 show(match (Ka bs)[0+v.toNat*1]? with|some v=>Sc.bool.proj v|none=>none)= _;rw[this];rfl
theorem Gr {bs:List Bool} {u v:Int} (b:0<=u) (a:u.toNat<bs.length) (hv:0<=v):tv (bs.set u.toNat true) v=if v=u then true else tv bs v:=by
 unfold tv;by_cases e:v=u
 ·subst e;rw[av rfl];simp[B3,a]
 ·rw[ao e];have:u.toNat≠v.toNat:=by omega
  simp[B3,E4 this]
def Ir (bs:List Bool):Nat:=bs.countP (! ·)
theorem xD {bs:List Bool} {k:Nat} (a:k<bs.length):Ir (bs.set k true)+(if bs.getD k false=false then 1 else 0)=Ir bs:=by
 unfold Ir;rw[List.countP_set a];have e:bs.getD k false=bs[k]:=by rw[B3,Ae a];rfl
 rw[e];cases h:bs[k] with
 |true=>simp
 |false=>
  have:0<bs.countP (! ·):=List.countP_pos_iff.2 ⟨bs[k],List.getElem_mem a,by rw[h];rfl⟩;simp;omega
theorem sL {bs:List Bool} {k:Nat} (a:k<bs.length):Ir (bs.set k true)<=Ir bs:=by have:=xD a;omega
section
variable {D G:List Nat} {w0 w:A0} {L:List (Nat×List AF)} {bp:Nat} {room:Int} {ps:List PT}
theorem OU (j:Nat) (H:aM D G w0 w L) {b:Nat} {bs:List Bool} {v:Int} (a:L[j]? =some (b,Ka bs)) (d:v.toNat<bs.length) {K:A0->Prop}
 (c: ∀w1,aM D G w0 w1 (L.set j (b,Ka (bs.set v.toNat true)))->K w1):aC w (ad (ae b) (v.toNat*1)) [.bool true] K:=by
 refine aC.gP j H a rfl ?_ λw1 h1=>c w1 ?_
 ·rw[GJ];unfold Ka;rw[Ft];omega
 ·have e:(Ka bs).set (0+v.toNat*1) (.bool true)=Ka (bs.set v.toNat true):=by unfold Ka;rw[List.map_set,B5,Nat.mul_one]
  rw[e] at h1;exact h1
end
end Go.Proofs.YtlcenllcmeebhaaGreat.Po
namespace Go.Proofs.YtlcenllcmeebhaaGreat
set_option maxRecDepth 100000
open Go.RX
open Po (tv Ka OT Gr Ir xD sL OU)
inductive Rc (E:Int->Int->Prop) (a:Int):Int->Prop
 |refl:Rc E a a
 |step {u v:Int}:Rc E a u->E u v->Rc E a v
structure Dfs (E:Int->Int->Prop) (n:Int) (bs Yh:List Bool):Prop where
 len:Yh.length=17
 mono: ∀v,0<=v->tv bs v=true->tv Yh v=true
 FA:tv Yh n=true
 snd: ∀v,0<=v->tv Yh v=true->tv bs v=true\/Rc E n v
 cls: ∀u v,0<=u->tv Yh u=true->tv bs u=false->E u v->tv Yh v=true
 Ir:Ir Yh<=Ir bs
structure Lp (E:Int->Int->Prop) (n:Int) (bs cs:List Bool):Prop where
 len:cs.length=17
 mono: ∀v,0<=v->tv bs v=true->tv cs v=true
 FA:tv cs n=true
 snd: ∀v,0<=v->tv cs v=true->tv bs v=true\/Rc E n v
 cls: ∀u v,0<=u->u≠n->tv cs u=true->tv bs u=false->E u v->tv cs v=true
 Ir:Ir cs+(if tv bs n=false then 1 else 0)<=Ir bs
open Po (tv Ka OT Gr Ir xD sL OU)
def og (gs:List GT):Prop:= ∀x∈gs,(x=zG\/((1<=x.1/\x.1<=16)/\(1<=x.2.2.1/\x.2.2.1<=16)/\x.1≠x.2.2.1/\0<=x.2.1/\x.2.1<65536))/\0<=x.2.2.2.2.1/\x.2.2.2.2.1<=1000
theorem Pz {g:Int}:gG g=true<->1<=g/\g<=16:=by unfold gG;simp
section
variable {w0:A0} {bg br c:Nat} {gs:List GT} {rest:List AF}
end
theorem og.set {gs:List GT} (h:og gs) (i:Nat) {x:GT} (hx:(x=zG\/((1<=x.1/\x.1<=16)/\(1<=x.2.2.1/\x.2.2.1<=16)/\x.1≠x.2.2.1/\0<=x.2.1/\x.2.1<65536))/\0<=x.2.2.2.2.1/\x.2.2.2.2.1<=1000):og (gs.set i x):=λy a=>by
 rcases List.mem_or_eq_of_mem_set a with a|rfl
 ·exact h y a
 ·exact hx
theorem OV:((zG:GT)=zG\/((1<=zG.1/\zG.1<=16)/\(1<=zG.2.2.1/\zG.2.2.1<=16)/\zG.1≠zG.2.2.1/\0<=zG.2.1/\zG.2.1<65536))/\0<=zG.2.2.2.2.1/\zG.2.2.2.2.1<=1000:=⟨.inl rfl,by decide,by decide⟩
theorem og.rev {gs:List GT} (h:og gs) (i o:Int):og (j9 gs i o):=by
 unfold j9;split
 ·exact h.set _ OV
 ·exact h
theorem og.at {gs:List GT} (h:og gs) {i:Int} {k:Nat} (a:l_ gs i=some k):((1<=(gs.getD k zG).1/\(gs.getD k zG).1<=16)/\(1<=(gs.getD k zG).2.2.1/\(gs.getD k zG).2.2.1<=16)/\(gs.getD k zG).1≠(gs.getD k zG).2.2.1/\0<=(gs.getD k zG).2.1/\(gs.getD k zG).2.1<65536)/\0<=(gs.getD k zG).2.2.2.2.1/\(gs.getD k zG).2.2.2.2.1<=1000:=by
 obtain⟨_, _, _,hx,b⟩:=lL a;obtain⟨h1,c⟩:=h _ (E5 hx);exact⟨h1.resolve_left b,c⟩
theorem og.take {gs:List GT} (h:og gs) (i g:Int) (b:Bool):og (dK gs i g b):=by
 unfold dK;split
 ·rename_i a;unfold iq at a;cases c:l_ gs i with
  |none=>rw[c] at a;cases a
  |some k=>
   rw[c] at a;dsimp only at a;obtain⟨h1,e⟩:=h.at c;obtain⟨_, _,d, _⟩:=lL c;subst d;split at a
   ·cases a
   ·split at a
    ·cases a
    ·rename_i f;refine h.set _ ⟨.inr h1,?_,?_⟩
     ·show 0<=(gs.getD i.toNat zG).2.2.2.2.1+1;omega
     ·show(gs.getD i.toNat zG).2.2.2.2.1+1<=1000;omega
 ·exact h
theorem og.back {gs:List GT} (h:og gs) (i g:Int):og (dS gs i g):=by
 unfold dS;split
 ·rename_i a;unfold mH at a;cases b:l_ gs i with
  |none=>rw[b] at a;cases a
  |some k=>
   rw[b] at a;dsimp only at a;obtain⟨h1,d⟩:=h.at b;obtain⟨_, _,c, _⟩:=lL b;subst c;split at a
   ·cases a
   ·split at a
    ·cases a
    ·rename_i e;refine h.set _ ⟨.inr h1,?_,?_⟩
     ·show 0<=(gs.getD i.toNat zG).2.2.2.2.1+ -1;omega
     ·show(gs.getD i.toNat zG).2.2.2.2.1+ -1<=1000;omega
 ·exact h
theorem og.off {gs:List GT} (h:og gs) (o q t:Int) (b:Bool):og (jh gs o q t b):=by
 unfold jh;split
 ·rename_i a;unfold lF at a;split at a
  ·cases a
  ·rename_i hc;have hc:gG o=true/\gG t=true/\o≠t/\0<=q/\q<65536:=by
    simp only[Dh,FH,beq_iff_eq,decide_eq_true_eq,not_or] at hc;obtain⟨⟨⟨⟨h1,c⟩,d⟩,f⟩,g⟩:=hc;exact⟨by simpa using h1,by simpa using c,d,by omega,by omega⟩
   have a1:=Pz.1 hc.1;have e:=Pz.1 hc.2.1;exact h.set _ ⟨.inr ⟨a1,e,hc.2.2⟩,Int.le_refl 0,(by decide:(0:Int)<=1000)⟩
 ·exact h
theorem og.drop {gs:List GT} (h:og gs) (g:Int):og (cP gs g):=λy a=>by
 unfold cP at a;obtain⟨x,hx,rfl⟩:=Cj.1 a;split
 ·exact OV
 ·exact h x hx
theorem og.new (n:Nat):og (B4 n zG):=λy a=>by
 rw[List.eq_of_mem_replicate a];exact OV
theorem og.use {gs:List GT} (h:og gs): ∀x∈gs,0<=x.2.2.2.2.1/\x.2.2.2.2.1<=1000:=λx hx=>(h x hx).2
noncomputable def H0:dG A2:={C3 with vG:=false,quiet:=[119,120]}
theorem LD (w:A0) (u:Option Nat->A0->Prop):(aI H0 (λ_=>[]) 163 [] w u)=(
 ∀w1,Ext w w1-> ∀c,Ext (w1.alloc (Obj.map ⟨[]⟩ 0)) c-> ∃(r:Nat), ∃(es:Array AM), ∃(a:Nat),some w1.heap.size=some r/\bI c r es a/\ib c r .i64 1 (.agg {toList:=[.string {data:=⟨[99,114,101,97,116,101]⟩},aa 0]}) es a λb=> ∀d,Ext b d-> ∃(r:Nat), ∃(es:Array AM), ∃(a:Nat),some w1.heap.size=some r/\bI d r es a/\ib d r .i64 2 (.agg {toList:=[.string {data:=⟨[100,101,115,116,114,111,121]⟩},aa 1]}) es a λb=> ∀e,Ext b e-> ∃(r:Nat), ∃(es:
 Array AM), ∃(a:Nat),some w1.heap.size=some r/\bI e r es a/\ib e r .i64 3 (.agg {toList:=[.string {data:=⟨[100,111,110,97,116,101]⟩},aa 2]}) es a λb=> ∀f,Ext b f-> ∃(r:Nat), ∃(es:Array AM), ∃(a:Nat),some w1.heap.size=some r/\bI f r es a/\ib f r .i64 4 (.agg {toList:=[.string {data:=⟨[114,101,99,108,97,105,109]⟩},aa 1]}) es a λb=> ∀g,Ext b g-> ∃(r:Nat), ∃(es:Array AM), ∃(a:Nat),some w1.heap.size=some r/\bI g r es a/\
 ib g r .i64 5 (.agg {toList:=[.string {data:=⟨[112,114,111,116,101,99,116]⟩},aa 2]}) es a λb=> ∀h,Ext b h-> ∃(r:Nat), ∃(es:Array AM), ∃(a:Nat),some w1.heap.size=some r/\bI h r es a/\ib h r .i64 6 (.agg {toList:=[.string {data:=⟨[108,111,97,100]⟩},aa 1]}) es a λb=> ∀i,Ext b i-> ∃(r:Nat), ∃(es:Array AM), ∃(a:Nat),some w1.heap.size=some r/\bI i r es a/\ib i r .i64 7 (.agg {toList:=[.string {data:=⟨[115,116,111,114,101]⟩},.int .i64
 2]}) es a λb=> ∀j,Ext b j-> ∃(r:Nat), ∃(es:Array AM), ∃(a:Nat),some w1.heap.size=some r/\bI j r es a/\ib j r .i64 8 (.agg {toList:=[.string {data:=⟨[111,102,102,101,114]⟩},aa 3]}) es a λb=> ∀k,Ext b k-> ∃(r:Nat), ∃(es:Array AM), ∃(a:Nat),some w1.heap.size=some r/\bI k r es a/\ib k r .i64 9 (.agg {toList:=[.string {data:=⟨[116,97,107,101]⟩},aa 3]}) es a λb=> ∀l,Ext b l-> ∃(r:Nat), ∃(es:Array AM), ∃(a:Nat),
 some w1.heap.size=some r/\bI l r es a/\ib l r .i64 10 (.agg {toList:=[.string {data:=⟨[98,97,99,107]⟩},aa 1]}) es a λb=> ∀m,Ext b m-> ∃(r:Nat), ∃(es:Array AM), ∃(a:Nat),some w1.heap.size=some r/\bI m r es a/\ib m r .i64 11 (.agg {toList:=[.string {data:=⟨[114,101,118,111,107,101]⟩},aa 1]}) es a λb=> ∀n,Ext b n-> ∃(r:Nat), ∃(es:Array AM), ∃(a:Nat),some w1.heap.size=some r/\bI n r es a/\ib n r .i64 12 (.agg {toList:=[.string
 {data:=⟨[111,112,101,110]⟩},aa 1]}) es a λb=> ∀o,Ext b o-> ∃(r:Nat), ∃(es:Array AM), ∃(a:Nat),some w1.heap.size=some r/\bI o r es a/\ib o r .i64 13 (.agg {toList:=[.string {data:=⟨[98,105,110,100]⟩},aa 2]}) es a λb=> ∀p,Ext b p-> ∃(r:Nat), ∃(es:Array AM), ∃(a:Nat),some w1.heap.size=some r/\bI p r es a/\ib p r .i64 14 (.agg {toList:=[.string {data:=⟨[115,101,110,100]⟩},aa 1]}) es a λb=> ∀q,Ext b q-> ∃(r
 :Nat), ∃(es:Array AM), ∃(a:Nat),some w1.heap.size=some r/\bI q r es a/\ib q r .i64 15 (.agg {toList:=[.string {data:=⟨[112,111,108,108]⟩},aa 0]}) es a λb=> ∀s,Ext b s-> ∃(r:Nat), ∃(es:Array AM), ∃(a:Nat),some w1.heap.size=some r/\bI s r es a/\ib s r .i64 16 (.agg {toList:=[.string {data:=⟨[99,108,111,115,101]⟩},aa 1]}) es a λb=> ∀t,Ext b t-> ∃(r:Nat), ∃(es:Array AM), ∃(a:Nat),some w1.heap.size=some r/\bI t r es
 a/\ib t r .i64 17 (.agg {toList:=[.string {data:=⟨[115,119,101,101,112]⟩},aa 0]}) es a λb=>au b (u (some w1.heap.size))):=by kernel_rfl
theorem RA (k:Int) (w:A0) (d:Int->A0->Prop):(aI H0 (λ_=>[]) 119 [aa k] w d)=(
 aA A2 163 (.el On) [] w λx a=> ∃(c:ByteArray×Int×Unit), ∃(b:Bool),mD a x .i64 k (.agg {toList:=[.string {data:=⟨[]⟩},aa 0]}) (.agg ⟨[.string c.1,aa c.2.1]⟩) b/\aN a {toList:=[.string {data:=⟨[]⟩},aa 0]} 242 λe a=>aC a (ae e) [.string c.1,aa c.2.1] λa=>aG (!b) (au a (d (-1))) (true=true/\aV a (ad (ae e) 1) λx=>au a (d x))):=by kernel_rfl
theorem E_ (k:Int) (w:A0) (a:Bool->A0->Prop):(aI H0 (λ_=>[]) 77 [aa k] w a)=(
 au w (a (k==1||k==2||k==17))):=by kernel_rfl
theorem LF (k a b c:Int) (w:A0) (e:Int×Int×Int×Unit->A0->Prop):(bW H0 (λ_=>[]) 120 [.agg ⟨[aa k,ax a,ax b,ax c]⟩] w e)=(
 aN w ⟨[aa k,ax a,ax b,ax c]⟩ 31 λb d=>aN d ⟨[ax 0,ax 0,ax 0]⟩ 222 λf d=>true=true/\cJ d (ad (ae b) 1) λx=>true=true/\cJ d (ad (ae b) 2) λg=>true=true/\cJ d (ad (ae b) 3) λh=>aC d (ae f) [ax x,ax g,ax h] λd=>au d λw1=>aj w1 none (ae f) (.agg [.int .u64,.int .u64,.int .u64]) λ(x:Int×Int×Int×Unit)=>e (x.1,x.2.1,x.2.2.1,()) w1):=by kernel_rfl
def rl:Nat->a7:=(λ|5=>[(13,Go.RX.El.one (Go.RX.Sc.int B2))]| _=>[])
theorem LG (k a b c:Int) (w:A0) (f:Bool->A0->Prop):(aI H0 rl 76 [.agg ⟨[aa k,ax a,ax b,ax c]⟩] w f)=(
 aN w ⟨[aa k,ax a,ax b,ax c]⟩ 31 λb d=>true=true/\aV d (ad (ae b) 0) λx=> ∃(g:Int),af A2 119 [aa x] d (aa g)/\aG (g== -1) (au d (f false)) (aj d none (ae b) uW λ(x:Int×Int×Int×Int×Unit)=> ∃(e:Int×Int×Int×Unit),af A2 120 [.agg ⟨[aa x.1,ax x.2.1,ax x.2.2.1,ax x.2.2.2.1]⟩] d (.agg ⟨[ax e.1,ax e.2.1,ax e.2.2.1]⟩)/\ ∃(I:Nat->Int×Unit->A0->Prop),(∃n, ∀w1,Ext d w1->I n (0,()) w1)/\
 ∀(n:Nat) (s:Int×Unit) (w1:A0),I n s w1->aG (decide (s.1<3)) ((0<=s.1/\s.1<(↑3:Int))/\aG (decide (s.1>=g)&&Kk [e.1,e.2.1,e.2.2.1] s.1 != 0) (au w1 (f false)) (∀h,Ext w1 h-> ∃(i:Nat),i<n/\I i (aH .i64 s.1 1,()) h)) (au w1 (f true)))):=by kernel_rfl
theorem gQ {D G:List Nat} {w0 w:A0} {L:List (Nat×List AF)} {M:List (Nat×Obj)} {r:Nat} {l:List AM} {c:Nat} (H:cD D G w0 w L ((r,.map ⟨l⟩ c)::M)) {n:Int} {val:AF} {K:A0->Prop} (g:DB (.int .i64) (aa n) l 0=some none)
 (k: ∀a,cD D G w0 a L ((r,.map ⟨l++[{key:=aa n,val,born:=c}]⟩ (c+1))::M)->K a):
 ∀w1,Ext w w1-> ∃r' b d,some r=some r'/\bI w1 r' b d/\ib w1 r' .i64 n val b d K:=λw1 h=>by
 have f:=H.ext h;refine⟨r,⟨l⟩,c,rfl,f.get (i:=0) rfl,?_⟩;unfold ib;rw[g];have e:Array.push _ _=⟨l++[{key:=aa n,val,born:=c}]⟩:=List.push_toArray _ _;rw[e];exact k _ (f.put (i:=0) rfl trivial)
theorem _root_.Go.RX.cD.Xy {D G:List Nat} {w0 w:A0} {L:List (Nat×List AF)} {M:List (Nat×Obj)} {r:Nat} {l l':List AM} {c:Nat} (H:cD D G w0 w L ((r,.map ⟨l⟩ c)::M)) (e:l=l'):cD D G w0 w L ((r,.map ⟨l'⟩ c)::M):=by
 grind
def gR (k:Int) (s:ByteArray) (n:Int) (b:Nat):AM:={key:=aa k,val:= .agg ⟨[.string s,aa n]⟩,born:=b}
def eO:Array AM:=⟨[gR 1 ⟨⟨[99,114,101,97,116,101]⟩⟩ 0 0,gR 2 ⟨⟨[100,101,115,116,114,111,121]⟩⟩ 1 1,gR 3 ⟨⟨[100,111,110,97,116,101]⟩⟩ 2 2,gR 4 ⟨⟨[114,101,99,108,97,105,109]⟩⟩ 1 3,gR 5 ⟨⟨[112,114,111,116,101,99,116]⟩⟩ 2 4,gR 6 ⟨⟨[108,111,97,100]⟩⟩ 1 5,gR 7 ⟨⟨[115,116,111,114,101]⟩⟩ 2 6,gR 8 ⟨⟨[111,102,102,101,114]⟩⟩ 3 7,gR 9 ⟨⟨[116,97,107,101]⟩⟩ 3 8,gR 10 ⟨⟨[98,97,99,107]⟩⟩ 1 9,gR 11 ⟨⟨[114,101,118,111,107,101]⟩⟩ 1 10,gR 12 ⟨⟨[111,112,101,110]⟩⟩ 1 11,gR 13 ⟨⟨[98,105,110,100]⟩⟩ 2 12,gR 14 ⟨⟨[115,101,110,100]⟩⟩ 1 13,gR 15 ⟨⟨[112,111,108,108]⟩⟩ 0 14,gR 16 ⟨⟨[99,108,111,115,101]⟩⟩ 1 15,gR 17 ⟨⟨[115,119,101,101,112]⟩⟩ 0 16]⟩
def j_ (k:Int):Int:=if 1<=k/\k<=17 then([0,1,2,1,2,1,2,3,3,1,1,1,2,1,0,1,0]:List Int).getD (k - 1).toNat 0 else -1
def gu (k a b c:Int):Bool:=decide (j_ k>=0)&&((decide (j_ k>0)||a==0)&&((decide (j_ k>1)||b==0)&&(decide (j_ k>2)||c==0)))
def qM (k:Int):Bool:=k==1||k==2||k==17
section
variable {D G:List Nat} {w0 w:A0} {L:List (Nat×List AF)} {M:List (Nat×Obj)}
theorem LH (H:cD D G w0 w L M) {K:Option Nat->A0->Prop} (k: ∀r a,cD D G w0 a L ((r,.map eO 17)::M)->K (some r) a):aA A2 163 (.el (.one .map)) [] w K:=by
 refine λw1 h1=>ai (C:=H0) (aW:=λ_=>[]) (AJ (LD w1 K) ?_);have H:=H.ext h1;intro b c;have H:=(H.ext c).alloc (o:= .map #[] 0) trivial;refine gQ H (by kernel_rfl) λf H=>?_;refine gQ H (by kernel_rfl) λg H=>?_;refine gQ H (by kernel_rfl) λh H=>?_;refine gQ H (by kernel_rfl) λi H=>?_;refine gQ H (by kernel_rfl) λj H=>?_;refine gQ H (by kernel_rfl) λl H=>?_;refine gQ H (by kernel_rfl) λm H=>?_;refine gQ H (by kernel_rfl) λn H=>?_;refine gQ H (by kernel_rfl) λp H=>?_;refine gQ H (by kernel_rfl) λq H=>?_;refine gQ H (by kernel_rfl) λs H=>?_;refine gQ H (by kernel_rfl) λt H=>?_;refine gQ H (by kernel_rfl) λu H=>?_;refine gQ H (by kernel_rfl) λv H=>?_;refine gQ H (by kernel_rfl) λx H=>?_;refine gQ H (by kernel_rfl) λy H=>?_;refine gQ H (by kernel_rfl) λz H=>?_;exact λd e=>k b.heap.size d ((H.ext e).Xy (by kernel_rfl))
theorem Hs {r:Nat} (h:bI w r eO 17) (k:Int): ∃(x:ByteArray×Int×Unit) (b:Bool),mD w (some r) .i64 k (.agg ⟨[.string ⟨⟨[]⟩⟩,aa 0]⟩) (.agg ⟨[.string x.1,aa x.2.1]⟩) b/\(b=false->j_ k= -1)/\(b=true->x.2.1=j_ k):=by
 by_cases c:1<=k/\k<=17
 ·have:k=1\/k=2\/k=3\/k=4\/k=5\/k=6\/k=7\/k=8\/k=9\/k=10\/k=11\/k=12\/k=13\/k=14\/k=15\/k=16\/k=17:=by omega
  rcases this with rfl|rfl|rfl|rfl|rfl|rfl|rfl|rfl|rfl|rfl|rfl|rfl|rfl|rfl|rfl|rfl|rfl
  ·exact⟨(⟨⟨[99,114,101,97,116,101]⟩⟩,0,()),true,⟨r,eO,17,rfl,h,rfl,rfl⟩,λh=>(by cases h),λ_=>rfl⟩
  ·exact⟨(⟨⟨[100,101,115,116,114,111,121]⟩⟩,1,()),true,⟨r,eO,17,rfl,h,rfl,rfl⟩,λh=>(by cases h),λ_=>rfl⟩
  ·exact⟨(⟨⟨[100,111,110,97,116,101]⟩⟩,2,()),true,⟨r,eO,17,rfl,h,rfl,rfl⟩,λh=>(by cases h),λ_=>rfl⟩
  ·exact⟨(⟨⟨[114,101,99,108,97,105,109]⟩⟩,1,()),true,⟨r,eO,17,rfl,h,rfl,rfl⟩,λh=>(by cases h),λ_=>rfl⟩
  ·exact⟨(⟨⟨[112,114,111,116,101,99,116]⟩⟩,2,()),true,⟨r,eO,17,rfl,h,rfl,rfl⟩,λh=>(by cases h),λ_=>rfl⟩
  ·exact⟨(⟨⟨[108,111,97,100]⟩⟩,1,()),true,⟨r,eO,17,rfl,h,rfl,rfl⟩,λh=>(by cases h),λ_=>rfl⟩
  ·exact⟨(⟨⟨[115,116,111,114,101]⟩⟩,2,()),true,⟨r,eO,17,rfl,h,rfl,rfl⟩,λh=>(by cases h),λ_=>rfl⟩
  ·exact⟨(⟨⟨[111,102,102,101,114]⟩⟩,3,()),true,⟨r,eO,17,rfl,h,rfl,rfl⟩,λh=>(by cases h),λ_=>rfl⟩
  ·exact⟨(⟨⟨[116,97,107,101]⟩⟩,3,()),true,⟨r,eO,17,rfl,h,rfl,rfl⟩,λh=>(by cases h),λ_=>rfl⟩
  ·exact⟨(⟨⟨[98,97,99,107]⟩⟩,1,()),true,⟨r,eO,17,rfl,h,rfl,rfl⟩,λh=>(by cases h),λ_=>rfl⟩
  ·exact⟨(⟨⟨[114,101,118,111,107,101]⟩⟩,1,()),true,⟨r,eO,17,rfl,h,rfl,rfl⟩,λh=>(by cases h),λ_=>rfl⟩
  ·exact⟨(⟨⟨[111,112,101,110]⟩⟩,1,()),true,⟨r,eO,17,rfl,h,rfl,rfl⟩,λh=>(by cases h),λ_=>rfl⟩
  ·exact⟨(⟨⟨[98,105,110,100]⟩⟩,2,()),true,⟨r,eO,17,rfl,h,rfl,rfl⟩,λh=>(by cases h),λ_=>rfl⟩
  ·exact⟨(⟨⟨[115,101,110,100]⟩⟩,1,()),true,⟨r,eO,17,rfl,h,rfl,rfl⟩,λh=>(by cases h),λ_=>rfl⟩
  ·exact⟨(⟨⟨[112,111,108,108]⟩⟩,0,()),true,⟨r,eO,17,rfl,h,rfl,rfl⟩,λh=>(by cases h),λ_=>rfl⟩
  ·exact⟨(⟨⟨[99,108,111,115,101]⟩⟩,1,()),true,⟨r,eO,17,rfl,h,rfl,rfl⟩,λh=>(by cases h),λ_=>rfl⟩
  ·exact⟨(⟨⟨[115,119,101,101,112]⟩⟩,0,()),true,⟨r,eO,17,rfl,h,rfl,rfl⟩,λh=>(by cases h),λ_=>rfl⟩
 ·have d: ∀(l:List AM) (i:Nat),(∀e∈l, ∃j:Int,e.key=aa j/\j≠k)->DB (.int .i64) (aa k) l i=some none:=by
   intro l
   induction l with
   |nil=>intro i _;rfl
   |cons e l g=>
    intro i a;obtain⟨j,h1,m⟩:=a e DV;unfold DB;rw[h1];have:J4 (.int .i64) (aa k) (aa j)=some false:=by
     show(if B2=B2 then some (k==j) else none)=some false
     grind
    grind
  have f:DB (.int .i64) (aa k) eO.toList 0=some none:=d _ 0 λe a=>by
   have a:e∈[gR 1 ⟨⟨[99,114,101,97,116,101]⟩⟩ 0 0,gR 2 ⟨⟨[100,101,115,116,114,111,121]⟩⟩ 1 1,gR 3 ⟨⟨[100,111,110,97,116,101]⟩⟩ 2 2,gR 4 ⟨⟨[114,101,99,108,97,105,109]⟩⟩ 1 3,gR 5 ⟨⟨[112,114,111,116,101,99,116]⟩⟩ 2 4,gR 6 ⟨⟨[108,111,97,100]⟩⟩ 1 5,gR 7 ⟨⟨[115,116,111,114,101]⟩⟩ 2 6,gR 8 ⟨⟨[111,102,102,101,114]⟩⟩ 3 7,gR 9 ⟨⟨[116,97,107,101]⟩⟩ 3 8,gR 10 ⟨⟨[98,97,99,107]⟩⟩ 1 9,gR 11 ⟨⟨[114,101,118,111,107,101]⟩⟩ 1 10,gR 12 ⟨⟨[111,112,101,110]⟩⟩ 1 11,gR 13 ⟨⟨[98,105,110,100]⟩⟩ 2 12,gR 14 ⟨⟨[115,101,110,100]⟩⟩ 1 13,gR 15 ⟨⟨[112,111,108,108]⟩⟩ 0 14,gR 16 ⟨⟨[99,108,111,115,101]⟩⟩ 1 15,gR 17 ⟨⟨[115,119,101,101,112]⟩⟩ 0 16]:=a;simp only[Dx,List.not_mem_nil,or_false] at a;rcases a with rfl|rfl|rfl|rfl|rfl|rfl|rfl|rfl|rfl|rfl|rfl|rfl|rfl|rfl|rfl|rfl|rfl
   all_goals exact⟨_,rfl,by omega⟩
  refine⟨(⟨⟨[]⟩⟩,0,()),false,⟨r,eO,17,rfl,h,?_⟩,λ_=>ao c,λh=>by cases h⟩;rw[f];exact⟨rfl,rfl⟩
theorem RB (k:Int) (w:A0):aE A2 119 (.el (.one (.int .i64))) [aa k] w (λx w'=>x=j_ k/\Ext w w'):=by
 refine ai (C:=H0) (aW:=λ_=>[]) (AJ (RA k w _) ?_);refine LH (cD.start [] w) λr d H=>?_;obtain⟨x,b,a,h0,h1⟩:=Hs (H.get (i:=0) rfl) k;have H:=H.base;refine⟨x,b,a,aN.go H λe f H=>aC.all 0 H rfl rfl rfl λg H=>?_⟩;cases b with
 |false=>exact aB rfl (au.go H λc H=>⟨(h0 rfl).symm,H.all⟩)
 |true=>exact an rfl ⟨rfl,aj.cw 0 H rfl rfl (au.go H λc H=>⟨h1 rfl,H.all⟩)⟩
theorem Vm (k:Int):af A2 119 [aa k] w (aa (j_ k)):=af.of λw' _=>RB k w'
theorem RC (k a b c:Int):af A2 120 [.agg ⟨[aa k,ax a,ax b,ax c]⟩] w (Sh.iu (.el (.agg [.int .u64,.int .u64,.int .u64])) (a,b,c,())):=by
 refine af.of λw' _=>aS (C:=H0) (aW:=λ_=>[]) (AJ (LF k a b c w' _) ?_);have H:=At.start [] w';refine aN.go H λd e H=>aN.go H λf g H=>⟨rfl,aj.cw 1 H rfl rfl ⟨rfl,aj.cw 1 H rfl rfl ⟨rfl,aj.cw 1 H rfl rfl (aC.all 0 H rfl rfl rfl λh H=>au.go H λi H=>aj.at 0 H rfl (rfl) ⟨rfl,H.all⟩)⟩⟩⟩
theorem LI (k a b c:Int) (w:A0):aE A2 76 (.el (.one .bool)) [.agg ⟨[aa k,ax a,ax b,ax c]⟩] w (λx w'=>x=gu k a b c/\Ext w w'):=by
 refine ai (C:=H0) (aW:=rl) (AJ (LG k a b c w _) ?_);have H:=At.start [] w;have s:j_ k= -1\/0<=j_ k:=by
  unfold j_;split
  ·rename_i h;right;have:k=1\/k=2\/k=3\/k=4\/k=5\/k=6\/k=7\/k=8\/k=9\/k=10\/k=11\/k=12\/k=13\/k=14\/k=15\/k=16\/k=17:=by omega
   rcases this with rfl|rfl|rfl|rfl|rfl|rfl|rfl|rfl|rfl|rfl|rfl|rfl|rfl|rfl|rfl|rfl|rfl<;>decide
  ·exact .inl rfl
 refine aN.go H λA B H=>⟨rfl,aj.cw 0 H rfl rfl ⟨_,Vm k,ab (λd=>au.go H λl H=>⟨?_,H.all⟩) (λd=>aj.at 0 H rfl (show _=some (k,a,b,c,()) from rfl) ⟨(a,b,c,()),RC k a b c,?_⟩)⟩⟩
 ·have d:j_ k= -1:=by simpa using d
  unfold gu;rw[d];rfl
 have d: ¬ j_ k= -1:=by simpa using d
 unfold gu;obtain⟨n,t⟩: ∃n,n=j_ k:=⟨_,rfl⟩;rw[<-t] at d s ⊢;refine⟨λq v w'=> ∃i:Nat,v.1=(i:Int)/\q+i=3/\(0<i-> ¬ (n<=0/\a≠0))/\(1<i-> ¬ (n<=1/\b≠0))/\(2<i-> ¬ (n<=2/\c≠0))/\Ext w w',⟨3,λl o=>⟨0,rfl,rfl,λh=>by omega,λh=>by omega,λh=>by omega,(H.ext o).all⟩⟩,?_⟩;rintro q ⟨v,u⟩ l ⟨i,e,D,h1,y,o,hx⟩;dsimp only at e ⊢;subst e;refine ab (λm=>⟨⟨by omega,by simpa using m⟩,?_⟩) (λm=>λf g=>⟨?_,hx.trans g⟩)
 ·have hi:i<3:=by
   have:(i:Int)<3:=by simpa using m
   omega
  have z:(¬ (n<=(i:Int)/\Kk [a,b,c] (i:Int)≠0))-> ∀f,Ext l f-> ∃p,p<q/\ ∃j:Nat,aH .i64 (i:Int) 1=(j:Int)/\p+j=3/\(0<j-> ¬ (n<=0/\a≠0))/\(1<j-> ¬ (n<=1/\b≠0))/\(2<j-> ¬ (n<=2/\c≠0))/\Ext w f:=λhs f g=>by
   refine⟨q - 1,by omega,i+1,by rw[ay (by omega) (by omega)];omega,by omega,?_,?_,?_,hx.trans g⟩
   ·intro _;by_cases e:i=0
    ·subst e;exact hs
    ·exact h1 (by omega)
   ·intro _;by_cases e:i=1
    ·subst e;exact hs
    ·exact y (by omega)
   ·intro _;have e:i=2:=by omega
    subst e;exact hs
  refine ab (λd1=>λf g=>⟨?_,hx.trans g⟩) (λd1=>z ?_)
  ·have d1:n<=(i:Int)/\Kk [a,b,c] (i:Int)≠0:=by
    simpa using d1
   have:i=0\/i=1\/i=2:=by omega
   symm;rw[Bool.eq_false_iff];intro r;simp only[Dq,Dh,decide_eq_true_eq,beq_iff_eq] at r;obtain⟨_,E,F,G⟩:=r;rcases this with rfl|rfl|rfl
   ·have d2:n<=0/\a≠0:=d1;omega
   ·have d2:n<=1/\b≠0:=d1;omega
   ·have d2:n<=2/\c≠0:=d1;omega
  grind
 grind
theorem Ek (k a b c:Int):af A2 76 [.agg ⟨[aa k,ax a,ax b,ax c]⟩] w (.bool (gu k a b c)):=af.of λw' _=>LI k a b c w'
theorem E' (k:Int) (w:A0):aE A2 77 (.el (.one .bool)) [aa k] w (λx w'=>x=qM k/\Ext w w'):=
 ai (AJ (E_ k w _) λw1 h1=>⟨rfl,h1⟩)
theorem Ht (k:Int):af A2 77 [aa k] w (.bool (qM k)):=af.of λw' _=>E' k w'
end
end Go.Proofs.YtlcenllcmeebhaaGreat
namespace Go.RX
set_option maxRecDepth 100000
open Go.ChangeShapes Go.WideShapes Go.RowKit
variable {H:Type} {enc:Bs×AF->H} {P:Program} {w:A0} {base:Nat} {spare:Nat->Bool} {held:Bool}
def yI (P:Program) (g:Bs->Option (List Sc)):Nat->List Field->Option (List Sc)
 | _,[]=>some []
 |off,f::r=>match g f.type with
  |some a=>if f.offset=off/\P.cellsOf f.type=a.length then match yI P g (off+a.length) r with
    |some b=>some (a++b)
    |none=>none
   else none
  |none=>none
def u' (P:Program):Nat->Bs->Option (List Sc)
 |0, _=>none
 |d+1,t=>match P.underlying t with
  |some (.int k)=>some [.int k]
  |some .bool=>some [.bool]
  |some (.struct fs)=>match yI P (u' P d) 0 fs.toList with
   |some a=>if P.cellsOf t=a.length then some a else none
   |none=>none
  |some (.array n e)=>match u' P d e with
   |some a=>if P.cellsOf e=a.length/\P.cellsOf t=n*a.length then some (B4 n a).flatten else none
   |none=>none
  | _=>none
def acm:(s:Sc)->s.T->Prop
 | .int k,x=>(Lit.int k x).wf=true
 | _, _=>True
def mh:(l:List Sc)->jX l->Prop
 |[], _=>True
 |s::r,x=>acm s x.1/\mh r x.2
theorem sM: ∀(a b:List Sc) (x:jX a) (y:jX b),mh a x->mh b y-> ∃z:jX (a++b),bu (a++b) z=bu a x++bu b y/\mh (a++b) z
 |[],b, _,y, _,c=>⟨y,rfl,c⟩
 |s::r,b,x,y,hx,c=>by
  obtain⟨z,h1,d⟩:=sM r b x.2 y hx.2 c;exact⟨(x.1,z),by simp only[Ip,bu,h1],hx.1,d⟩
theorem Jh {g:Bs->Option (List Sc)} {m:Nat} (hg: ∀t ss cs y,g t=some ss->DataW.trod enc P w base spare held m t cs=some y-> ∃x:jX ss,cs=bu ss x/\mh ss x)
 {cs:List AF} {fs:Array Field} {xs:List (DataW H×List MemPlace)} (e:xs.length=fs.size)
 (j: ∀(i:Nat) (f:Field),fs[i]? =some f->DataW.trod enc P w base spare held m f.type ((cs.drop f.offset).take (P.cellsOf f.type))=xs[i]?):
 ∀(l:List Field) (i off:Nat) (ss:List Sc),fs.toList.drop i=l->yI P g off l=some ss->cs.length=off+ss.length-> ∃x:jX ss,cs.drop off=bu ss x/\mh ss x
 |[],i,off,ss, _,h,d=>by
  simp only[yI,Option.some.injEq] at h;subst h;refine⟨(),?_,trivial⟩;rw[GD (by simp at d;omega)];rfl
 |f::r,i,off,ss,c,h,d=>by
  simp only[yI] at h;split at h
  ·rename_i a n;split at h
   ·rename_i hc;split at h
    ·rename_i b hb;cases h;have hi:i<fs.toList.length:=by
      apply Nat.lt_of_not_le;intro o;rw[GD o] at c;cases c
     have p:fs[i]? =some f:=by
      have:=congrArg (·[0]?) c;simp only[List.getElem?_drop,GS,List.getElem?_cons_zero] at this;simpa using this
     have k:=j i f p;have q: ∃y,xs[i]? =some y:=⟨_,Ae (by rw[e];simpa using hi)⟩;obtain⟨y,s⟩:=q;rw[s,hc.1,hc.2] at k;obtain⟨x,v,A⟩:=hg _ _ _ _ n k;have B:fs.toList.drop (i+1)=r:=by
      have:=congrArg (List.drop 1) c;simpa[GF] using this
     obtain⟨z,C,D⟩:=Jh hg e j r (i+1) (off+a.length) b B hb (by rw[d];simp;omega);obtain⟨u,E,F⟩:=sM a b x z A D;refine⟨u,?_,F⟩;rw[E, <-v, <-C, <-GF];exact(FV _ _).symm
    ·cases h
   ·cases h
  ·cases h
theorem Bo {a:List Sc} {cs:List AF}: ∀(n off:Nat),(∀i,i<n-> ∃x:jX a,(cs.drop (off+i*a.length)).take a.length=bu a x/\mh a x)->cs.length=off+n*a.length->
 ∃x:jX (B4 n a).flatten,cs.drop off=bu _ x/\mh _ x
 |0,off, _,b=>by
  refine⟨(),?_,trivial⟩;rw[GD (by omega)];rfl
 |n+1,off,h,b=>by
  obtain⟨x,c,d⟩:=h 0 (by omega);obtain⟨z,e,f⟩:=Bo (a:=a) (cs:=cs) n (off+a.length) (λi hi=>by
   have:=h (i+1) (by omega);rw[show off+(i+1)*a.length=off+a.length+i*a.length by rw[FB];omega] at this;exact this) (by rw[b,FB];omega)
  obtain⟨u,g,j⟩:=sM a (B4 n a).flatten x z d f;refine⟨u,?_,j⟩;show _=bu (a++(B4 n a).flatten) u;rw[g, <-c, <-e,GH,GS, <-GF];exact(FV _ _).symm
theorem vh: ∀(d m:Nat) (t:Bs) (ss:List Sc) (cs:List AF) (y:DataW H×List MemPlace),u' P d t=some ss->DataW.trod enc P w base spare held m t cs=some y-> ∃x:jX ss,cs=bu ss x/\mh ss x
 |0, _, _, _, _, _,h, _=>by simp[u'] at h
 |d+1,m,t,ss,cs,y,h,g=>by
  simp only[u'] at h;split at h
  ·rename_i k c;cases h;obtain⟨n,rfl, _,r⟩:=DataW.trod_int c g;exact⟨(n,()),rfl,r,trivial⟩
  ·rename_i c;cases h;obtain⟨b,rfl, _⟩:=DataW.trod_bool c g;exact⟨(b,()),rfl,trivial,trivial⟩
  ·rename_i fs c;split at h
   ·rename_i a j;split at h
    ·rename_i hc;cases h;obtain⟨xs,n, _, _,l,p,o⟩:=DataW.trod_struct c g;obtain⟨x,h1,f⟩:=Jh (λt ss cs y h1 f=>vh d n t ss cs y h1 f) p o fs.toList 0 0 _ rfl j (by rw[l,hc];omega);exact⟨x,by simpa using h1,f⟩
    ·cases h
   ·cases h
  ·rename_i n e c;split at h
   ·rename_i a j;split at h
    ·rename_i hc;cases h;obtain⟨xs,k, _, _,l,p,o⟩:=DataW.trod_array c g;obtain⟨x,h1,f⟩:=Bo (a:=a) (cs:=cs) n 0 (λi hi=>by
      have q:=o i hi;have s:xs[i]? =some xs[i]:=Ae (by omega);rw[s,hc.1] at q;rw[B5];exact vh d k e a _ _ j q) (by rw[l,hc.2];omega)
     exact⟨x,by simpa using h1,f⟩
    ·cases h
   ·cases h
  ·cases h
theorem xk {t e:Bs} {a:Option AC} {n c:Nat} {o:DataW H} {ps:List MemPlace} (d:Nat) {ss:List Sc} (p:P.underlying t=some (.slice e)) (q:u' P d e=some ss) (hc:P.cellsOf e=ss.length)
 (h:DataW.Trod enc P w base spare held t (.slice a n c) o ps): ∃xs:List (jX ss),n=xs.length/\n<=maxLen/\Sl w (.agg ss) a xs/\ ∀x∈xs,mh ss x:=by
 obtain⟨E,r⟩:=h;rcases Deep.open_slice p r with ⟨fe, _⟩|⟨x,len,cap,m,k,D,F,fe, _,G,I,s, _,hx⟩
 ·simp[Value.cells] at fe;obtain⟨rfl,rfl,rfl⟩:=fe;exact⟨[],rfl,F8 _,λi x hx=>by simp at hx,λx hx=>by simp at hx⟩
 ·simp[Value.cells] at fe;obtain⟨rfl,rfl,rfl⟩:=fe;have J:n<=m:=by rw[s];split<;>omega
  have u: ∀i,i<n-> ∃y:jX ss,(∀j,j<ss.length->w.cell? ((x.add (i*ss.length)).add j)=(bu ss y)[j]?)/\mh ss y:=by
   intro i hi;obtain⟨K,h1,g⟩:=hx i (by omega);obtain⟨y,v,A⟩:=vh d _ _ _ _ _ q g;obtain⟨_,B,pv⟩:=World.cells?_some h1;rw[hc] at h1 B pv;refine⟨y,λj l=>?_,A⟩;rw[<-v];exact pv j l
  have: ∀k,k<=n-> ∃xs:List (jX ss),xs.length=k/\(∀i y,xs[i]? =some y->(∀j,j<ss.length->w.cell? ((x.add (i*ss.length)).add j)=(bu ss y)[j]?)/\mh ss y):=by
   intro k
   induction k with
   |zero=>intro _;exact⟨[],rfl,λi y b=>by simp at b⟩
   |succ k C=>
    intro L;obtain⟨xs,h1,g⟩:=C (by omega);obtain⟨y,b⟩:=u k (by omega);refine⟨xs++[y],by simp[h1],λi z f=>?_⟩;by_cases hi:i<xs.length
    ·rw[H6 hi] at f;exact g i z f
    ·rw[Fy (by omega)] at f;have:i - xs.length=0:=by
      have:=(B1.1 f).1;simp at this;omega
     rw[this] at f;simp at f;subst f;rw[show i=k by omega];exact b
  obtain⟨xs,h1,g⟩:=this n (DA n);refine⟨xs,h1.symm,by omega,λi y b=>⟨rfl,x.add (i*ss.length),rfl,λj l=>(g i y b).1 j l⟩,λy b=>?_⟩;obtain⟨i,hi⟩:=F6 b;exact(g i y hi).2
end Go.RX
namespace Go.Proofs.YtlcenllcmeebhaaGreat
set_option maxRecDepth 100000
open Go.RX
section
variable {w0 w:A0} {L:List (Nat×List AF)}
def fO (ws:List Int) (f p t:Int):Nat->Int×Int×FT
 |0=>(f,3,(0,0,0,0,()))
 |k+1=>bD ws p t (fO ws f p t k)
def mM (ws:List Int) (f p t:Int):FT:=if rR f p t then(0,0,0,1,()) else(fO ws f p t 4).2.2
theorem qx {ws:List Int} {p t:Int} {x:Int×Int×FT} (h:x.2.1= -1):bD ws p t x=x:=av h
theorem Ji {fr pg wt lv:Int} {fd:FT} {ep:Bool} {er:Int} {el:Bool} {ef:Int} (a:0<=lv/\lv<=3):(tookS fr pg wt lv fd ep er el ef).2.1= -1\/((tookS fr pg wt lv fd ep er el ef).2.1=lv - 1/\0<lv):=by
 unfold tookS;split
 ·exact .inl rfl
 ·split
  ·rename_i h;rw[Dq,decide_eq_true_eq] at h;exact .inr ⟨bF (by omega) (by omega),by omega⟩
  ·split
   ·exact .inl rfl
   ·split<;>exact .inl rfl
theorem Xz (ws:List Int) (f p t:Int): ∀k:Nat,(fO ws f p t k).2.1= -1\/((fO ws f p t k).2.1=3 - (k:Int)/\k<=3)
 |0=> .inr ⟨rfl,by decide⟩
 |k+1=>by
  rcases Xz ws f p t k with h|⟨h,a⟩
  ·left;show(bD ws p t (fO ws f p t k)).2.1= -1;rw[qx h];exact h
  ·show(bD ws p t (fO ws f p t k)).2.1= -1\/((bD ws p t (fO ws f p t k)).2.1=3 - ((k+1:Nat):Int)/\k+1<=3);generalize fO ws f p t k=x at h;unfold bD;rw[ao (by omega)];split
   ·exact .inl rfl
   ·rcases Ji (fr:=x.1) (pg:=p) (wt:=t) (lv:=x.2.1) (fd:=x.2.2) (by omega) with e|⟨e,b⟩
    ·exact .inl (e ..)
    ·exact .inr ⟨by rw[e];omega,by omega⟩
theorem xE {ws:List Int} {f p t:Int} {k:Nat} (h:(fO ws f p t k).2.1= -1): ∀j,fO ws f p t (k+j)=fO ws f p t k
 |0=>rfl
 |j+1=>by
  show bD ws p t (fO ws f p t (k+j))= _;rw[xE h j,qx h]
end
theorem set_perm {α:Type} (a:α): ∀(L:List α) (j:Nat),j<L.length->(L.set j a).Perm (a::L.eraseIdx j)
 |[], _,h=>by simp at h
 |x::L,0, _=>by simp
 |x::L,j+1,h=>by
  rw[List.set_cons_succ,List.eraseIdx_cons_succ];exact((set_perm a L j (by simpa using h)).cons x).trans (.swap a x _)
theorem PA {α:Type} {L:List α} {j:Nat} {a:α} (b:L[j]? =some a):L.set j a=L:=by
 apply Dk;intro n;by_cases e:j=n
 ·subst e;rw[Dn (B1.1 b).1,b]
 ·rw[E4 e]
theorem ZW {α:Type} {L:List α} {j c:Nat} {a b:α} (d:L[j]? =some a) (hb:L[c]? =some b) (h:j≠c): ∃f,L.Perm (a::b::f)/\ ∀a',(L.set j a').Perm (a'::b::f):=by
 have g:j<L.length:=(B1.1 d).1;have k:b∈L.eraseIdx j:=by
  rw[List.mem_eraseIdx_iff_getElem?];exact⟨c,λe=>h e.symm,hb⟩
 obtain⟨i,hi⟩:=F6 k;have l:i<(L.eraseIdx j).length:=(B1.1 hi).1;have p2:(L.eraseIdx j).Perm (b::(L.eraseIdx j).eraseIdx i):=by
  have:=set_perm b (L.eraseIdx j) i l;rwa[PA hi] at this
 refine⟨(L.eraseIdx j).eraseIdx i,?_,λa'=>(set_perm a' L j g).trans (p2.cons a')⟩;have:=(set_perm a L j g).trans (p2.cons a);rwa[PA d] at this
section
variable {w0 w:A0} {L:List (Nat×List AF)}
end
end Go.Proofs.YtlcenllcmeebhaaGreat
namespace Go.Proofs.YtlcenllcmeebhaaGreat.D
set_option maxRecDepth 100000
open Go.RX
noncomputable def D0:dG A2:={C3 with vG:=true}
theorem RD (a:Int) (w:A0) (k:Option AC×Nat×Nat->A0->Prop):(aI D0 (λ_=>[]) 246 [aa a] w k)=(
 ∀w1,Ext w w1->aN (w1.alloc (Obj.map ⟨[]⟩ 0)) ⟨[aa 1,aa 2,aa 3,aa 4]⟩ 3 λb c=> ∀e,Ext c e-> ∃(r:Nat), ∃(es:Array AM), ∃(d:Nat),some w1.heap.size=some r/\bI e r es d/\ib e r .i64 0 (.slice (ae b) 4 4) es d λc=>aN c ⟨[aa 0,aa 2,aa 3,aa 4]⟩ 3 λb c=> ∀f,Ext c f-> ∃(r:Nat), ∃(es:Array AM), ∃(d:Nat),some w1.heap.size=some r/\bI f r es d/\ib f r .i64 1 (.slice (ae b) 4 4) es d λc=>aN c ⟨[aa 5,.int
 .i64 0]⟩ 3 λb c=> ∀g,Ext c g-> ∃(r:Nat), ∃(es:Array AM), ∃(d:Nat),some w1.heap.size=some r/\bI g r es d/\ib g r .i64 2 (.slice (ae b) 2 2) es d λc=>aN c ⟨[aa 5,aa 0]⟩ 3 λb c=> ∀h,Ext c h-> ∃(r:Nat), ∃(es:Array AM), ∃(d:Nat),some w1.heap.size=some r/\bI h r es d/\ib h r .i64 3 (.slice (ae b) 2 2) es d λc=>aN c ⟨[aa 5,aa 0,aa 4]⟩ 3 λb c=> ∀i,Ext c i-> ∃(r:Nat), ∃(es:Array AM), ∃(d:Nat),some
 w1.heap.size=some r/\bI i r es d/\ib i r .i64 4 (.slice (ae b) 3 3) es d λc=>aN c ⟨[aa 0]⟩ 3 λb c=> ∀j,Ext c j-> ∃(r:Nat), ∃(es:Array AM), ∃(d:Nat),some w1.heap.size=some r/\bI j r es d/\ib j r .i64 5 (.slice (ae b) 1 1) es d λc=> ∃(x:Option AC×Nat×Nat),j8 c (some w1.heap.size) .i64 a (.slice none 0 0) (.slice x.1 x.2.1 x.2.2)/\au c (k (x.1,x.2.1,x.2.2))):=by kernel_rfl
def zI:Nat->a7:=(λ|2=>[(10,Go.RX.El.one (Go.RX.Sc.int B2))]| _=>[])
theorem ZX (a b:Int) (w:A0) (Post:Bool->A0->Prop):(aI D0 zI 234 [aa a,aa b] w Post)=(
 aA A2 246 (.el (.one .slice)) [aa a] w λx f=> ∀(c:Int),c=(↑x.2.1:Int)-> ∃(I:Nat->Int×Unit->A0->Prop),(∃n, ∀w1,Ext f w1->I n (0,()) w1)/\ ∀(n:Nat) (s:Int×Unit) (w1:A0),I n s w1->aG (decide (s.1<c)) ((x.1.isSome=true/\0<=s.1/\s.1<(↑x.2.1:Int))/\aj w1 none (ad x.1 (Int.toNat s.1*1)) (.one (.int .i64)) λ(x:Int)=>aG (x==b) (au w1 λw1=>Post true w1) (∀(x:Int),x=aH .i64 s.1 1-> ∀d,Ext w1 d-> ∃(e:Nat),e<n/\I e (x,()) d)) (au w1 λw1=>Post false w1)):=by
 kernel_rfl
theorem xC {w:A0} {r:Nat} {k:IntKind} {n:Int} {val:AF} {es:Array AM} {a:Nat} {K:A0->Prop} (h:DB (.int k) (.int k n) es.toList 0=some none)
 (b:K (w.putObj r (.map (es.push {key:= .int k n,val,born:=a}) (a+1)))):ib w r k n val es a K:=by grind[ib]
theorem m8 {w0 a d:A0} {r:Nat} {es:Array AM} {b:Nat} {l:List AF} {t:Bs} {n:Int} {bs:List (Nat×List AF)} {val:AF} {K:A0->Prop}
 (m:Ext w0 a) (o:w0.heap.size<=r) (p:bI a r es b) (hb: ∀x∈bs,bO a x.1 x.2/\x.1≠r) (f:Ext (a.alloc (.cells ⟨l⟩ t)) d)
 (q:DB (.int .i64) (aa n) es.toList 0=some none)
 (k: ∀c,Ext w0 c->bI c r (es.push {key:=aa n,val,born:=b}) (b+1)->(∀x∈(a.heap.size,l)::bs,bO c x.1 x.2/\x.1≠r)->K c):
 ∃r' g h,some r=some r'/\bI d r' g h/\ib d r' .i64 n val g h K:=by
 have i:=p;have s:=(Array.getElem?_eq_some_iff.1 i).1;have e:=(Ext.alloc a _).trans f;have j:=e.obj i;refine⟨r,es,b,rfl,j,xC q (k _ ((m.trans e).putObj o _) ?_ ?_)⟩
 ·exact kf (Array.getElem?_eq_some_iff.1 j).1
 ·intro x hx;rcases Dx.1 hx with rfl|hx
  ·have:a.heap.size≠r:=by omega
   exact⟨((bO.new a l t).ext f).putObj this _,this⟩
  ·exact⟨((hb x hx).1.ext e).putObj (hb x hx).2 _,(hb x hx).2⟩
def gw (a:Int):List Int:=if a=0 then[1,2,3,4] else if a=1 then[0,2,3,4] else if a=2 then[5,0] else if a=3 then[5,0] else if a=4 then[5,0,4] else if a=5 then[0] else[]
theorem RE (a:Int) (w:A0):aE A2 246 (.el (.one .slice)) [aa a] w (λr w'=>Sl w' eI r.1 (gw a)/\r.2.1=(gw a).length/\Ext w w'):=by
 refine ai (C:=D0) (aW:=λ_=>[]) (AJ (RD a w _) ?_);intro w1 h1 g o V A;have m0:bI g w1.heap.size #[] 0:=o.obj (ft w1 _);have step: ∀{W:A0} {bs:List (Nat×List AF)} {r:Nat},(∀x∈bs,bO W x.1 x.2/\x.1≠r)-> ∀{p:A0},Ext W p-> ∀x∈bs,bO p x.1 x.2/\x.1≠r:=
  λh _ e x hx=>⟨(h x hx).1.ext e,(h x hx).2⟩
 refine m8 (bs:=[]) ((h1.jl _).trans o) h1.size m0 (λx hx=>by cases hx) A rfl λX E0 M0 B0 q j Y B=>?_;refine m8 (E0.trans j) h1.size (j.obj M0) (step B0 j) B rfl λZ E1 M1 D s k w7 E=>?_;refine m8 (E1.trans k) h1.size (k.obj M1) (step D k) E rfl λW2 E2 M2 F t l w9 G=>?_;refine m8 (E2.trans l) h1.size (l.obj M2) (step F l) G rfl λW3 E3 M3 H u m oO I=>?_;refine m8 (E3.trans m) h1.size (m.obj M3) (step H m) I rfl λW4 J K L v n N8 M=>?_;refine m8 (J.trans n) h1.size (n.obj K) (step L n) M rfl λd N b c=>?_;have b0:=(c (g.heap.size,[aa 1,aa 2,aa 3,aa 4]) (by simp)).1;have O:=(c (q.heap.size,[aa 0,aa 2,aa 3,aa 4]) (by simp)).1;have P:=(c (s.heap.size,[aa 5,aa 0]) (by simp)).1;have Q:=(c (t.heap.size,[aa 5,aa 0]) (by simp)).1;have R:=(c (u.heap.size,[aa 5,aa 0,aa 4]) (by simp)).1;have S:=(c (v.heap.size,[aa 0]) (by simp)).1;have fin: ∀(x:Option AC×Nat×Nat),j8 d (some w1.heap.size) .i64 a (.slice none 0 0) (.slice x.1 x.2.1 x.2.2)->Sl d eI x.1 (gw a)->x.2.1=(gw a).length->
  ∃x:Option AC×Nat×Nat,j8 d (some w1.heap.size) .i64 a (.slice none 0 0) (.slice x.1 x.2.1 x.2.2)/\ ∀f,Ext d f->Sl f eI (x.1,x.2.1,x.2.2).1 (gw a)/\(x.1,x.2.1,x.2.2).2.1=(gw a).length/\Ext w f:=
  λx T hs U=>⟨x,T,λf y=>⟨hs.ext y,U,N.trans y⟩⟩
 by_cases c0:a=0
 ·subst c0;exact fin (some ⟨g.heap.size,0,none⟩,4,4) ⟨_, _, _,rfl,b,rfl⟩ (Sl.jN b0 rfl) rfl
 by_cases c1:a=1
 ·subst c1;exact fin (some ⟨q.heap.size,0,none⟩,4,4) ⟨_, _, _,rfl,b,rfl⟩ (Sl.jN O rfl) rfl
 by_cases c2:a=2
 ·subst c2;exact fin (some ⟨s.heap.size,0,none⟩,2,2) ⟨_, _, _,rfl,b,rfl⟩ (Sl.jN P rfl) rfl
 by_cases c3:a=3
 ·subst c3;exact fin (some ⟨t.heap.size,0,none⟩,2,2) ⟨_, _, _,rfl,b,rfl⟩ (Sl.jN Q rfl) rfl
 by_cases c4:a=4
 ·subst c4;exact fin (some ⟨u.heap.size,0,none⟩,3,3) ⟨_, _, _,rfl,b,rfl⟩ (Sl.jN R rfl) rfl
 by_cases c5:a=5
 ·subst c5;exact fin (some ⟨v.heap.size,0,none⟩,1,1) ⟨_, _, _,rfl,b,rfl⟩ (Sl.jN S rfl) rfl
 have z:gw a=[]:=by
  unfold gw;rw[ao c0,ao c1,ao c2,ao c3,ao c4,ao c5]
 refine fin (none,0,0) ⟨_, _, _,rfl,b,?_⟩ (by rw[z];intro i x hx;simp at hx) (by rw[z];rfl);have d0:(a==0)=false:=by simp[c0]
 have d1:(a==1)=false:=by simp[c1]
 have d2:(a==2)=false:=by simp[c2]
 have d3:(a==3)=false:=by simp[c3]
 have d4:(a==4)=false:=by simp[c4]
 have d5:(a==5)=false:=by simp[c5]
 simp only[Array.toList_push,List.nil_append,Ip,DB,J4,if_true,B5,d0,d1,d2,d3,d4,d5]
theorem LJ (a:Int):(gw a).length<=4:=by grind[gw]
theorem ZY (a b:Int) (w:A0):aE A2 234 (.el (.one .bool)) [aa a,aa b] w (λx w'=>x=decide (b∈gw a)/\Ext w w'):=by
 refine ai (C:=D0) (aW:=zI) (AJ (ZX a b w _) ?_);intro w1 h1;refine(RE a w1).mono ?_;rintro⟨p,n,c⟩ o ⟨hs,q,f⟩ A g;dsimp only at g q hs;subst g;have B:=LJ a;refine⟨λk s w'=>Ext o w'/\ ∃i:Nat,s.1=i/\k+i=n/\ ∀j,j<i->(gw a)[j]? ≠some b,⟨n,λt d=>⟨d,0,rfl,rfl,λj l=>absurd l (by omega)⟩⟩,?_⟩;rintro k ⟨D,u⟩ t ⟨d,i,hi,E,l⟩;simp only at hi;subst hi;dsimp only;refine ab (λh=>?_) (λh=>λm e=>⟨?_,((h1.trans f).trans d).trans e⟩)
 ·simp only[decide_eq_true_eq] at h;have v:i<(gw a).length:=by omega
  have r:=(hs.ext d) i _ (Ae v);refine⟨⟨r.1,by omega,by omega⟩, _,r.2,ab (λy m e=>⟨?_,((h1.trans f).trans d).trans e⟩) (λy x z m e=>⟨k - 1,by omega,d.trans e,i+1,by rw[z,ay (by omega) (by omega)];rfl,by omega,?_⟩)⟩
  grind
  grind
 ·grind[decide_eq_false_iff_not,gw,F6]
noncomputable def Y5:Entry A2 where
 f:=234
 fn l:=match l with
  |[.int .i64 a,.int .i64 b]=>some (True,.bool (decide (b∈gw a)))
  | _=>none
 ok args pre v h c w:=by
  split at h
  ·rename_i a b;cases h;exact bY (ZY a b w)
  ·cases h
noncomputable def D1:dG A2:={D0 with sP:=[tn,vH,FO,FP,Y5]}
abbrev wh (c:Bool->A0->Prop) (a:A0) (b:Nat):Prop:=
 aj a none (ae b) dQ λ(x:Int×Int×Int×Int×Unit)=>true=true/\aV a (ad (ae b) 0) λd=>au a λw1=>c (x.1==d&&(x.2.1==0&&(x.2.2.1==0&&(x.2.2.2.1==0&&true)))) w1
abbrev wi (c:Bool->A0->Prop) (a:A0) (b:Nat):Prop:=
 true=true/\aV a (ad (ae b) 1) λx=>(decide (x>0)=true->true=true)/\aj a (some (decide (x>0))) (ad (ae b) 3) aX λ(d:Int)=>au a (c (decide (x>0)&&d==0))
abbrev wj (b:Bool->A0->Prop) (c:Int) (a:A0) (d:Nat):Prop:=
 aG (c==5) (true=true/\aV a (ad (ae d) 2) λx=>au a (b (x==0))) (au a (b false))
abbrev wo (d:Bool->A0->Prop) (b:Int) (a:A0) (c:Nat):Prop:=
 aG (b==2) (true=true/\aV a (ad (ae c) 1) λx=>((x==0)=true->true=true)/\aj a (some (x==0)) (ad (ae c) 3) aX λ(e:Int)=>au a (d (x==0&&e==0))) (aG (b==3) (aG (b==3) (wi d a c) (wj d b a c)) (aG (b==4) (wi d a c) (wj d b a c)))
theorem yZ (k o r e:Int) (w:A0) (f:Bool->A0->Prop):(aI D1 (λ_=>[]) 233 [.agg ⟨[aa k,aa o,aa r,aa e]⟩] w f)=(
 aN w ⟨[aa k,aa o,aa r,aa e]⟩ 52 λb a=>true=true/\aV a (ad (ae b) 1) λx=>((!decide (x<0))=true->true=true)/\aj a (some !decide (x<0)) (ad (ae b) 1) aX λ(c:Int)=>((!(decide (x<0)||decide (c>16)))=true->true=true)/\aj a (some !(decide (x<0)||decide (c>16))) (ad (ae b) 2) aX λ(d:Int)=>((!(decide (x<0)||decide (c>16)||decide (d<0)))=true->true=true)/\aj a (some !(decide (x<0)||decide (c>16)||decide (d<0))) (ad (ae b) 2) aX λ(g:Int)=>
 ((!(decide (x<0)||decide (c>16)||decide (d<0)||decide (g>65535)))=true->true=true)/\aj a (some !(decide (x<0)||decide (c>16)||decide (d<0)||decide (g>65535))) (ad (ae b) 3) aX λ(h:Int)=>((!(decide (x<0)||decide (c>16)||decide (d<0)||decide (g>65535)||decide (h<0)))=true->true=true)/\aj a (some !(decide (x<0)||decide (c>16)||decide (d<0)||decide (g>65535)||decide (h<0))) (ad (ae b) 3) aX λ(i:Int)=>aG (decide (x<0)||decide (c>16)||decide (d<0)||
 decide (g>65535)||decide (h<0)||decide (i>4294967295)) (au a (f false)) (true=true/\aV a (ad (ae b) 0) λx=>aG (x==0) (aG (x==0) (wh f a b) (wo f x a b)) (aG (x==1) (wh f a b) (wo f x a b)))):=by kernel_rfl
def jO (k o r e:Int):Prop:=(0<=o/\o<=16/\0<=r/\r<=65535/\0<=e/\e<=4294967295)/\(((k=0\/k=1)/\o=0/\r=0/\e=0)\/(k=2/\o=0/\e=0)\/((k=3\/k=4)/\0<o/\e=0)\/(k=5/\r=0))
instance (k o r e:Int):Decidable (jO k o r e):=by unfold jO;infer_instance
def dT (k o r e:Int):Bool:=decide (jO k o r e)
theorem LK {k o r e:Int} {b:Bool} (h:b=true<->jO k o r e):b=dT k o r e:=by grind[dT]
theorem y6 (k o r e:Int) (w:A0):aE A2 233 (.el (.one .bool)) [.agg ⟨[aa k,aa o,aa r,aa e]⟩] w (λb w'=>b=dT k o r e/\Ext w w'):=by
 refine ai (C:=D1) (aW:=λ_=>[]) (AJ (yZ k o r e w _) ?_);have H:=At.start [] w
 repeat' (first
  |exact Go.RX.aM.all H
  |refine Aq (by grind) ?_
  |refine aj.cw 0 H rfl rfl ?_
  |refine aj.at 0 H rfl rfl ?_
  |refine aN.go H λb w1 H=>?_
  |refine aC.gP 0 H rfl rfl rfl λw1 H=>?_
  |refine aC.one 0 H rfl rfl rfl λw1 H=>?_
  |with_reducible refine au.go H λw1 H=>?_
  |refine kq ?_
  |refine aB (by assumption) ?_
  |refine an (by assumption) ?_
  |refine ab (λc=>?_) (λc=>?_))
 all_goals
  refine Aq (LK ?_) H.all;simp only[Dh,FG,Dq,Gi,beq_iff_eq,beq_eq_false_iff_ne,bne_iff_ne,bne_eq_false_iff_eq,decide_eq_true_eq,decide_eq_false_iff_not,Gj,H4,FH,H5,and_true,true_and,and_false,false_and,or_true,true_or,or_false,false_or,ne_eq,not_true_eq_false,not_false_eq_true,false_iff,iff_false,true_iff,iff_true] at*
  unfold jO;omega
noncomputable def u7:Entry A2 where
 f:=233
 fn l:=match l with
  |[.agg ⟨[.int .i64 k,.int .i64 o,.int .i64 r,.int .i64 e]⟩]=>some (True,.bool (dT k o r e))
  | _=>none
 ok args pre v h a w:=by
  split at h
  ·rename_i k o r e;cases h;exact bY (y6 k o r e w)
  ·cases h
noncomputable def D2:dG A2:={D0 with sP:=[tn,vH,FO,FP,Y5,u7]}
abbrev zJ (d:(Int×Int×Int×Int×Unit)×Int×Unit->A0->Prop) (a:A0) (e:Nat) (b:Nat):Prop:=
 aj a none (ae e) dQ λ(x:Int×Int×Int×Int×Unit)=>True/\aG (!dT x.1 x.2.1 x.2.2.1 x.2.2.2.1) (aC a (ae b) [aa 0,aa 0,aa 0,aa 0] λc=>au c λw1=>aj w1 none (ae b) dQ λ(x:Int×Int×Int×Int×Unit)=>d ((x.1,x.2.1,x.2.2.1,x.2.2.2.1,()),1,()) w1) (aj a none (ae e) dQ λ(x:Int×Int×Int×Int×Unit)=>aC a (ae b) [aa x.1,aa x.2.1,aa x.2.2.1,aa x.2.2.2.1] λc=>au c λw1=>aj w1 none (ae b) dQ λ(x:Int×Int×Int×Int×
 Unit)=>d ((x.1,x.2.1,x.2.2.1,x.2.2.2.1,()),0,()) w1)
theorem Vn (k o r e x y:Int) (w:A0) (d:(Int×Int×Int×Int×Unit)×Int×Unit->A0->Prop):(bW D2 (λ_=>[]) 192 [.agg ⟨[aa k,aa o,aa r,aa e]⟩,aa x,aa y] w d)=(
 aN w ⟨[aa k,aa o,aa r,aa e]⟩ 52 λb a=>aN a ⟨[aa 0,aa 0,aa 0,aa 0]⟩ 52 λc a=>aj a none (ae b) dQ λ(f:Int×Int×Int×Int×Unit)=>True/\aG (!dT f.1 f.2.1 f.2.2.1 f.2.2.2.1) (aC a (ae c) [aa 0,aa 0,aa 0,aa 0] λa=>au a λw1=>aj w1 none (ae c) dQ λ(x:Int×Int×Int×Int×Unit)=>d ((x.1,x.2.1,x.2.2.1,x.2.2.2.1,()),11,()) w1) (true=true/\aV a (ad (ae b) 2) λg=>aG (decide (g>0)) (aC a
 (ae c) [aa 0,aa 0,aa 0,aa 0] λa=>au a λw1=>aj w1 none (ae c) dQ λ(x:Int×Int×Int×Int×Unit)=>d ((x.1,x.2.1,x.2.2.1,x.2.2.2.1,()),9,()) w1) (true=true/\aV a (ad (ae b) 0) λh=>True/\aG (!decide (x∈gw h)) (aC a (ae c) [aa 0,aa 0,aa 0,aa 0] λa=>au a λw1=>aj w1 none (ae c) dQ λ(x:Int×Int×Int×Int×Unit)=>d ((x.1,x.2.1,x.2.2.1,x.2.2.2.1,()),6,()) w1) (aG (x==5) (true=true/\aV a (ad (ae
 b) 1) λi=>aN a ⟨[aa 0,aa 0,aa 0,aa 0]⟩ 52 λb a=>aC a (ae b) [aa x,aa i,aa 0,aa 0] λa=>zJ d a b c) (aN a ⟨[aa 0,aa 0,aa 0,aa 0]⟩ 52 λb a=>aC a (ae b) [aa x,aa y,aa 0,aa 0] λa=>zJ d a b c))))):=by kernel_rfl
theorem ZZ (k o r e x:Int) (w:A0) (d:(Int×Int×Int×Int×Unit)×Int×Unit->A0->Prop):(bW D2 (λ_=>[]) 228 [.agg ⟨[aa k,aa o,aa r,aa e]⟩,aa x] w d)=(
 aN w ⟨[aa k,aa o,aa r,aa e]⟩ 52 λb a=>aN a ⟨[aa 0,aa 0,aa 0,aa 0]⟩ 52 λc a=>aj a none (ae b) dQ λ(g:Int×Int×Int×Int×Unit)=>True/\aG (!dT g.1 g.2.1 g.2.2.1 g.2.2.2.1) (aC a (ae c) [aa 0,aa 0,aa 0,aa 0] λa=>au a λw1=>aj w1 none (ae c) dQ λ(x:Int×Int×Int×Int×Unit)=>d ((x.1,x.2.1,x.2.2.1,x.2.2.2.1,()),11,()) w1) (true=true/\aV a (ad (ae b) 0) λf=>((f != 2)=true->true=
 true)/\aj a (some (f != 2)) (ad (ae b) 0) aX λ(i:Int)=>((f != 2&&i != 3)=true->true=true)/\aj a (some (f != 2&&i != 3)) (ad (ae b) 0) aX λ(l:Int)=>aG (f != 2&&i != 3&&l != 4) (aC a (ae c) [aa 0,aa 0,aa 0,aa 0] λa=>au a λw1=>aj w1 none (ae c) dQ λ(x:Int×Int×Int×Int×Unit)=>d ((x.1,x.2.1,x.2.2.1,x.2.2.2.1,()),6,()) w1) (true=true/\aV a (ad (ae b) 2) λm=> ∀(h:Int),h=a6 .i64 65535 m->((!decide (x>h))=true->
 true=true)/\aj a (some !decide (x>h)) (ad (ae b) 2) aX λ(n:Int)=>aG (decide (x>h)||decide (x<a6 .i64 0 n)) (aC a (ae c) [aa 0,aa 0,aa 0,aa 0] λa=>au a λw1=>aj w1 none (ae c) dQ λ(x:Int×Int×Int×Int×Unit)=>d ((x.1,x.2.1,x.2.2.1,x.2.2.2.1,()),2,()) w1) (true=true/\aV a (ad (ae b) 2) λp=> ∀(j:Int),j=aH .i64 p x->true=true/\aC a (ad (ae b) 2) [aa j] λa=>aj a none (ae b) dQ λ(x:Int×Int×Int×Int×Unit)=>
 aC a (ae c) [aa x.1,aa x.2.1,aa x.2.2.1,aa x.2.2.2.1] λa=>au a λw1=>aj w1 none (ae c) dQ λ(x:Int×Int×Int×Int×Unit)=>d ((x.1,x.2.1,x.2.2.1,x.2.2.2.1,()),0,()) w1)))):=by kernel_rfl
def h_ (k o r e x y:Int):Int:=if dT k o r e=false then 11 else if r>0 then 9 else if x∈gw k then(if dT x (if x=5 then o else y) 0 0=false then 1 else 0) else 6
def mS (k o r e x y:Int):Int:=if h_ k o r e x y=0 then x else 0
def lD (k o r e x y:Int):Int:=if h_ k o r e x y=0 then(if x=5 then o else y) else 0
theorem Vo (k o r e x y:Int) (w:A0):aE A2 192 (.bA [(.agg [.int .i64,.int .i64,.int .i64,.int .i64]),.one (.int .i64)]) [.agg ⟨[aa k,aa o,aa r,aa e]⟩,aa x,aa y] w
 (λv w'=>v=((mS k o r e x y,lD k o r e x y,(0:Int),(0:Int),()),h_ k o r e x y,())/\Ext w w'):=by
 refine aS (C:=D2) (aW:=λ_=>[]) (AJ (Vn k o r e x y w _) ?_);have H:=At.start [] w
 repeat' (first
  |exact Go.RX.aM.all H
  |exact Aq (by first|rfl|decide+kernel) (Go.RX.aM.all H)
  |refine Aq (by grind) ?_
  |refine aj.cw 0 H rfl rfl ?_
  |refine aj.cw 1 H rfl rfl ?_
  |refine aj.cw 2 H rfl rfl ?_
  |refine aj.at 0 H rfl rfl ?_
  |refine aj.at 1 H rfl rfl ?_
  |refine aj.at 2 H rfl rfl ?_
  |refine aN.go H λb w1 H=>?_
  |refine aC.all 0 H rfl rfl rfl λw1 H=>?_
  |refine aC.all 1 H rfl rfl rfl λw1 H=>?_
  |refine aC.all 2 H rfl rfl rfl λw1 H=>?_
  |refine aC.gP 0 H rfl rfl rfl λw1 H=>?_
  |refine aC.gP 1 H rfl rfl rfl λw1 H=>?_
  |refine aC.gP 2 H rfl rfl rfl λw1 H=>?_
  |refine aC.one 0 H rfl rfl rfl λw1 H=>?_
  |refine aC.one 1 H rfl rfl rfl λw1 H=>?_
  |refine aC.one 2 H rfl rfl rfl λw1 H=>?_
  |with_reducible refine au.go H λw1 H=>?_
  |refine kq ?_
  |refine aB (by assumption) ?_
  |refine an (by assumption) ?_
  |refine ab (λc=>?_) (λc=>?_))
 all_goals
  refine Aq ?_ H.all;simp only[Dh,FG,Dq,Gi,beq_iff_eq,beq_eq_false_iff_ne,bne_iff_ne,bne_eq_false_iff_eq,decide_eq_true_eq,decide_eq_false_iff_not,Gj,H4,FH,H5,and_true,true_and,and_false,false_and,or_true,true_or,or_false,false_or,ne_eq,not_true_eq_false,not_false_eq_true,false_iff,iff_false,true_iff,iff_true] at*
  first
   |(simp[mS,lD,h_, *];done)
   |(subst_vars;simp[mS,lD,h_, *])
def w_ (k o r e x:Int):Int:=if dT k o r e=false then 11 else if k=2\/k=3\/k=4 then(if r+x<0\/r+x>65535 then 2 else 0) else 6
def qN (k o r e x:Int):Int×Int×Int×Int×Unit:=if w_ k o r e x=0 then(k,o,r+x,e,()) else(0,0,0,0,())
theorem Z0 (k o r e x:Int) (hx: -9223372036854775808<=x/\x<9223372036854775808) (w:A0):aE A2 228 (.bA [(.agg [.int .i64,.int .i64,.int .i64,.int .i64]),.one (.int .i64)]) [.agg ⟨[aa k,aa o,aa r,aa e]⟩,aa x] w
 (λv w'=>v=(qN k o r e x,w_ k o r e x,())/\Ext w w'):=by
 refine aS (C:=D2) (aW:=λ_=>[]) (AJ (ZZ k o r e x w _) ?_);have H:=At.start [] w
 repeat' (first
  |exact Go.RX.aM.all H
  |exact Aq (by first|rfl|decide+kernel) (Go.RX.aM.all H)
  |refine Aq (by first|exact rfl|exact trivial|exact λ_=>rfl|exact λ_=>trivial|exact⟨rfl,by decide,by decide⟩|exact⟨by decide,by decide⟩|decide+kernel|exact λ_=>by decide|exact λ_=>⟨rfl,by decide,by decide⟩|(dsimp only[I1,I2];exact⟨rfl,by decide,by decide⟩)) ?_
  |refine aj.cw 0 H rfl rfl ?_
  |refine aj.cw 1 H rfl rfl ?_
  |refine aj.cw 2 H rfl rfl ?_
  |refine aj.at 0 H rfl rfl ?_
  |refine aj.at 1 H rfl rfl ?_
  |refine aj.at 2 H rfl rfl ?_
  |refine aN.go H λb w1 H=>?_
  |refine aC.all 0 H rfl rfl rfl λw1 H=>?_
  |refine aC.all 1 H rfl rfl rfl λw1 H=>?_
  |refine aC.all 2 H rfl rfl rfl λw1 H=>?_
  |refine aC.gP 0 H rfl rfl rfl λw1 H=>?_
  |refine aC.gP 1 H rfl rfl rfl λw1 H=>?_
  |refine aC.gP 2 H rfl rfl rfl λw1 H=>?_
  |refine aC.one 0 H rfl rfl rfl λw1 H=>?_
  |refine aC.one 1 H rfl rfl rfl λw1 H=>?_
  |refine aC.one 2 H rfl rfl rfl λw1 H=>?_
  |with_reducible refine au.go H λw1 H=>?_
  |refine kq ?_
  |refine aB (by assumption) ?_
  |refine an (by assumption) ?_
  |refine ab (λc=>?_) (λc=>?_))
 all_goals
  refine Aq ?_ H.all;simp only[Dh,FG,Dq,Gi,beq_iff_eq,beq_eq_false_iff_ne,bne_iff_ne,bne_eq_false_iff_eq,decide_eq_true_eq,decide_eq_false_iff_not,Gj,H4,FH,H5,and_true,true_and,and_false,false_and,or_true,true_or,or_false,false_or,ne_eq,not_true_eq_false,not_false_eq_true,false_iff,iff_false,true_iff,iff_true] at*
 ·simp[qN,w_, *]
 ·have a: ¬ (k=2\/k=3\/k=4):=by omega
  simp[qN,w_, *]
 all_goals
  have d:dT k o r e=true:=by assumption
  have g:jO k o r e:=of_decide_eq_true d;unfold jO at g;have h:a6 .i64 65535 r=65535 - r:=bF (by omega) (by omega);have i:a6 .i64 0 r=0 - r:=bF (by omega) (by omega);simp only[h,i] at*
  have a:k=2\/k=3\/k=4:=by omega
 ·have f:r+x<0\/r+x>65535:=by omega
  simp[qN,w_, *]
 ·have f: ¬ (r+x<0\/r+x>65535):=by omega
  have j:aH .i64 r x=r+x:=ay (by omega) (by omega);have:w_ k o r e x=0:=by unfold w_;rw[ao (by rw[d];decide),av a,ao f]
  unfold qN;rw[this,av rfl,j]
theorem IH {x:Int} (h:0<=x) (h':x<18446744073709551616):(B x).toNat=x.toNat:=by
 have:=Ca h h';unfold U at this;omega
theorem dU (x:Int):aJ .u64 x=U (B x):=Zy x
def fE (N:Nat):Int:=((N / 4294967296 % 4294967296:Nat):Int)
theorem acn {x:Int} (h:0<=x) (h':x<4294967296):aJ .i64 x=x:=gJ (by omega) (by omega)
theorem cE (N:Nat):aJ .i64 (fE N)=fE N:=acn (by unfold fE;omega) (by unfold fE;omega)
noncomputable def abr:Entry A2 where
 f:=192
 fn l:=match l with
  |[.agg ⟨[.int .i64 k,.int .i64 o,.int .i64 r,.int .i64 e]⟩,.int .i64 x,.int .i64 y]=>some (True,.tuple ⟨[.agg ⟨[.int .i64 (mS k o r e x y),.int .i64 (lD k o r e x y),.int .i64 0,.int .i64 0]⟩,.int .i64 (h_ k o r e x y)]⟩)
  | _=>none
 ok args pre v h a w:=by
  split at h
  ·rename_i k o r e x y;cases h;exact bY (Vo k o r e x y w)
  ·cases h
noncomputable def aco:Entry A2 where
 f:=228
 fn l:=match l with
  |[.agg ⟨[.int .i64 k,.int .i64 o,.int .i64 r,.int .i64 e]⟩,.int .i64 x]=>some ((-9223372036854775808<=x/\x<9223372036854775808),.tuple ⟨[.agg ⟨[.int .i64 (qN k o r e x).1,.int .i64 (qN k o r e x).2.1,.int .i64 (qN k o r e x).2.2.1,.int .i64 (qN k o r e x).2.2.2.1]⟩,.int .i64 (w_ k o r e x)]⟩)
  | _=>none
 ok args pre v h a w:=by
  split at h
  ·rename_i k o r e x;cases h;exact bY (Z0 k o r e x a w)
  ·cases h
noncomputable def D3:dG A2:={D0 with vG:=false,sP:=[tn,vH,FO,FP,Y5,u7,abr,aco]}
noncomputable def E0:dG A2:={D3 with sh:=[(104,.el (.one (.Ac 146 2))),(65,.el (.one (.Ac 146 2)))],quiet:=[105,207,62]}
noncomputable def E1:dG A2:={E0 with cl:=[(201,.Ac 105 1)]}
noncomputable def E2:dG A2:={E0 with cl:=[(201,.Ac 207 1)]}
abbrev aaM:Sh:= .el (.one (.Ac 146 2))
theorem Z1 (p:Option AC) (w:A0) (a:Int->A0->Prop):(aI E0 (λ_=>[]) 62 [ah p] w a)=(
 aG p.isNone (au w (a 0)) (ff p 0 w λx=>au w (a (↑x.2.1:Int)))):=by kernel_rfl
theorem Z2 (k o r e:Int) (c:Option AC) (w:A0) (d:Bool->A0->Prop):(aI E0 (λ_=>[]) 105 [.agg ⟨[aa k,aa o,aa r,aa e]⟩,ah c] w d)=(
 aN w ⟨[aa k,aa o,aa r,aa e]⟩ 52 λb a=>true=true/\aV a (ad (ae b) 0) λx=>aV a c λf=>au a (d (x==f))):=by kernel_rfl
theorem LM (k o r e:Int) (c:Option AC) (w:A0) (d:Bool->A0->Prop):(aI E0 (λ_=>[]) 207 [.agg ⟨[aa k,aa o,aa r,aa e]⟩,ah c] w d)=(
 aN w ⟨[aa k,aa o,aa r,aa e]⟩ 52 λb a=>true=true/\aV a (ad (ae b) 1) λx=>aV a c λf=>au a (d (x==f))):=by kernel_rfl
theorem abt (p:Option AC) (k:Int) (w:A0) (c:Option AC×Option AC×Unit->A0->Prop):(aI E0 (λ_=>[]) 65 [ah p,aa k] w c)=(
 aN w ⟨[aa k]⟩ 3 λb a=>aA A2 104 (.el (.one (.Ac 146 2))) [ah p,.func (.func 105) ⟨[]⟩ {toList:=[ah (ae b)]}] a λx a=>au a (c (x.1,x.2.1,()))):=by kernel_rfl
theorem Vp (p c:Option AC) (w:A0) (d:Option AC×Option AC×Unit->A0->Prop):(aI E0 (λ_=>[]) 104 [ah p,.func (.func 105) #[] #[ah c]] w d)=(
 aN w ⟨[ah p]⟩ 36 λb a=>aN a {toList:=[.func (.func 105) ⟨[]⟩ ⟨[ah c]⟩]} 201 λe a=>au a (d (some ⟨b,0,none⟩,some ⟨e,0,none⟩,()))):=by kernel_rfl
theorem RF (p c:Option AC) (w:A0) (d:Option AC×Option AC×Unit->A0->Prop):(aI E0 (λ_=>[]) 104 [ah p,.func (.func 207) #[] #[ah c]] w d)=(
 aN w ⟨[ah p]⟩ 36 λb a=>aN a {toList:=[.func (.func 207) ⟨[]⟩ ⟨[ah c]⟩]} 201 λe a=>au a (d (some ⟨b,0,none⟩,some ⟨e,0,none⟩,()))):=by kernel_rfl
def um:Nat->a7:=(λ|2=>[(13,Go.RX.El.one (Go.RX.Sc.int B2))]| _=>[])
theorem RG (y:Nat) (p c:Option AC) (w:A0) (f:Unit->A0->Prop):(aI E1 um 146 [.func (.yield y) #[] #[],ah p,ah c] w f)=(
 gg w p λx=>aG x.isNone (au w (f ())) (gg w p λx=>ff x 0 w λx=> ∃(I:Nat->Int×Unit->A0->Prop),(∃n, ∀w1,Ext w w1->I n (0,()) w1)/\ ∀(n:Nat) (s:Int×Unit) (w1:A0),I n s w1->aG (decide (s.1<(↑x.2.1:Int))) ((x.1.isSome=true/\0<=s.1/\s.1<(↑x.2.1:Int))/\aj w1 none (ad x.1 (Int.toNat s.1*4)) dQ λ(x:Int×Int×Int×Int×Unit)=>aN w1 ⟨[aa 0,aa 0,aa 0,aa 0]⟩ 52 λb a=>aC a (ae b) [aa x.1,aa x.2.1,aa x.2.2.1,aa x.2.2.2.1] λa=>aj
 a none c (.one (.Ac 105 1)) λx=>aj a none (ae b) dQ λ(g:Int×Int×Int×Int×Unit)=> ∃h,af A2 105 [.agg ⟨[aa g.1,aa g.2.1,aa g.2.2.1,aa g.2.2.2.1]⟩,ah x.1] a (.bool h)/\aG h (∀w1,Ext a w1->mC A2 y [aa s.1] w1 λ(b:Bool) a=>aG (!b) (au a (f ())) (∀d,Ext a d-> ∃(e:Nat),e<n/\I e (aH .i64 s.1 1,()) d)) (∀d,Ext a d-> ∃(e:Nat),e<n/\I e (aH .i64 s.1 1,()) d)) (au w1 (f ())))):=by kernel_rfl
def rm:Nat->a7:=(λ|2=>[(13,Go.RX.El.one (Go.RX.Sc.int B2))]| _=>[])
theorem LN (y:Nat) (p c:Option AC) (w:A0) (f:Unit->A0->Prop):(aI E2 rm 146 [.func (.yield y) #[] #[],ah p,ah c] w f)=(
 gg w p λx=>aG x.isNone (au w (f ())) (gg w p λx=>ff x 0 w λx=> ∃(I:Nat->Int×Unit->A0->Prop),(∃n, ∀w1,Ext w w1->I n (0,()) w1)/\ ∀(n:Nat) (s:Int×Unit) (w1:A0),I n s w1->aG (decide (s.1<(↑x.2.1:Int))) ((x.1.isSome=true/\0<=s.1/\s.1<(↑x.2.1:Int))/\aj w1 none (ad x.1 (Int.toNat s.1*4)) dQ λ(x:Int×Int×Int×Int×Unit)=>aN w1 ⟨[aa 0,aa 0,aa 0,aa 0]⟩ 52 λb a=>aC a (ae b) [aa x.1,aa x.2.1,aa x.2.2.1,aa x.2.2.2.1] λa=>aj
 a none c (.one (.Ac 207 1)) λx=>aj a none (ae b) dQ λ(g:Int×Int×Int×Int×Unit)=> ∃h,af A2 207 [.agg ⟨[aa g.1,aa g.2.1,aa g.2.2.1,aa g.2.2.2.1]⟩,ah x.1] a (.bool h)/\aG h (∀w1,Ext a w1->mC A2 y [aa s.1] w1 λ(b:Bool) a=>aG (!b) (au a (f ())) (∀d,Ext a d-> ∃(e:Nat),e<n/\I e (aH .i64 s.1 1,()) d)) (∀d,Ext a d-> ∃(e:Nat),e<n/\I e (aH .i64 s.1 1,()) d)) (au w1 (f ())))):=by kernel_rfl
theorem RH (k o r e:Int) (c d:Option AC) (w:A0) (i:(Int×Int×Int×Int×Unit)×Int×Unit->A0->Prop):(bW E0 (λ_=>[]) 191 [.agg ⟨[aa k,aa o,aa r,aa e]⟩,ah c,ah d] w i)=(
 aN w ⟨[aa k,aa o,aa r,aa e]⟩ 52 λb a=>aN a ⟨[aa 0,aa 0,aa 0,aa 0]⟩ 52 λj a=>aj a none (ae b) dQ λ(x:Int×Int×Int×Int×Unit)=>aV a c λg=>aV a d λh=>True/\aC a (ae j) [aa (mS x.1 x.2.1 x.2.2.1 x.2.2.2.1 g h),aa (lD x.1 x.2.1 x.2.2.1 x.2.2.2.1 g h),aa 0,aa 0] λa=>au a λw1=>aj w1 none (ae j) dQ λ(f:Int×Int×Int×Int×Unit)=>i ((f.1,f.2.1,f.2.2.1,f.2.2.2.1,()),h_ x.1 x.2.1
 x.2.2.1 x.2.2.2.1 g h,()) w1):=by kernel_rfl
theorem Vq (k o r e:Int) (c:Option AC) (w:A0) (g:(Int×Int×Int×Int×Unit)×Int×Unit->A0->Prop):(bW E0 (λ_=>[]) 227 [.agg ⟨[aa k,aa o,aa r,aa e]⟩,ah c] w g)=(
 aN w ⟨[aa k,aa o,aa r,aa e]⟩ 52 λb a=>aN a ⟨[aa 0,aa 0,aa 0,aa 0]⟩ 52 λh a=>aj a none (ae b) dQ λ(x:Int×Int×Int×Int×Unit)=>aV a c λd=>(-9223372036854775808<=d/\d<9223372036854775808)/\aC a (ae h) [aa (qN x.1 x.2.1 x.2.2.1 x.2.2.2.1 d).1,aa (qN x.1 x.2.1 x.2.2.1 x.2.2.2.1 d).2.1,aa (qN x.1 x.2.1 x.2.2.1 x.2.2.2.1 d).2.2.1,aa (qN x.1 x.2.1 x.2.2.1 x.2.2.2.1 d).2.2.2.1] λa=>au a λw1=>aj w1 none (ae h) dQ λ
 (f:Int×Int×Int×Int×Unit)=>g ((f.1,f.2.1,f.2.2.1,f.2.2.2.1,()),w_ x.1 x.2.1 x.2.2.1 x.2.2.2.1 d,()) w1):=by kernel_rfl
theorem LO (p:Option AC) (f:Int) (c d:Option AC) (w:A0) (e:Int->A0->Prop):(aI E0 (λ_=>[]) 190 [ah p,aa f,.func (.func 191) #[] #[ah c,ah d]] w e)=(
 ∃(x:Int),af A2 62 [ah p] w (aa x)/\aG (x==0) (au w (e 10)) (((!decide (f<0))=true->p.isSome=true)/\((!decide (f<0))=true->p.isSome=true)/\aj w (some !decide (f<0)) (ad p 0) fi λx=>aG (decide (f<0)||decide (f>=(↑x.2.1:Int))) (au w (e 2)) (ff p 0 w λx=>(x.1.isSome=true/\0<=f/\f<(↑x.2.1:Int))/\aj w none (ad x.1 (f.toNat*4)) dQ λ(x:Int×Int×Int×Int×Unit)=>aA A2 191 (.bA [.agg [.int .i64,.int .i64,.int .i64,.int .i64],.one (.int .i64)]) [.agg ⟨[aa x.1,.int .i64
 x.2.1,aa x.2.2.1,aa x.2.2.2.1]⟩,ah c,ah d] w λ(x:(Int×Int×Int×Int×Unit)×Int×Unit) a=>aN a ⟨[aa 0,aa 0,aa 0,aa 0]⟩ 52 λb a=>aC a (ae b) [aa x.1.1,aa x.1.2.1,aa x.1.2.2.1,aa x.1.2.2.2.1] λa=>aG (x.2.1==0) (ff p 0 a λh=>aj a none (ae b) dQ λ(g:Int×Int×Int×Int×Unit)=>(h.1.isSome=true/\0<=f/\f<(↑h.2.1:Int))/\aC a (ad h.1 (f.toNat*4)) [aa g.1,aa g.2.1,aa g.2.2.1,aa g.2.2.2.1]
 λa=>au a (e x.2.1)) (au a (e x.2.1))))):=by kernel_rfl
theorem Hu (p:Option AC) (f:Int) (c:Option AC) (w:A0) (d:Int->A0->Prop):(aI E0 (λ_=>[]) 190 [ah p,aa f,.func (.func 227) #[] #[ah c]] w d)=(
 ∃(x:Int),af A2 62 [ah p] w (aa x)/\aG (x==0) (au w (d 10)) (((!decide (f<0))=true->p.isSome=true)/\((!decide (f<0))=true->p.isSome=true)/\aj w (some !decide (f<0)) (ad p 0) fi λx=>aG (decide (f<0)||decide (f>=(↑x.2.1:Int))) (au w (d 2)) (ff p 0 w λx=>(x.1.isSome=true/\0<=f/\f<(↑x.2.1:Int))/\aj w none (ad x.1 (f.toNat*4)) dQ λ(x:Int×Int×Int×Int×Unit)=>aA A2 227 (.bA [.agg [.int .i64,.int .i64,.int .i64,.int .i64],.one (.int .i64)]) [.agg ⟨[aa x.1,.int .i64
 x.2.1,aa x.2.2.1,aa x.2.2.2.1]⟩,ah c] w λ(x:(Int×Int×Int×Int×Unit)×Int×Unit) a=>aN a ⟨[aa 0,aa 0,aa 0,aa 0]⟩ 52 λb a=>aC a (ae b) [aa x.1.1,aa x.1.2.1,aa x.1.2.2.1,aa x.1.2.2.2.1] λa=>aG (x.2.1==0) (ff p 0 a λg=>aj a none (ae b) dQ λ(e:Int×Int×Int×Int×Unit)=>(g.1.isSome=true/\0<=f/\f<(↑g.2.1:Int))/\aC a (ad g.1 (f.toNat*4)) [aa e.1,aa e.2.1,aa e.2.2.1,aa e.2.2.2.1] λa=>au
 a (d x.2.1)) (au a (d x.2.1))))):=by kernel_rfl
theorem Vr (p:Option AC) (f k o:Int) (w:A0) (c:Int->A0->Prop):(aI E0 (λ_=>[]) 138 [ah p,aa f,aa k,aa o] w c)=(
 aN w ⟨[aa k]⟩ 3 λb a=>aN a ⟨[aa o]⟩ 3 λd a=>aA A2 190 (.el aX) [ah p,aa f,.func (.func 191) ⟨[]⟩ {toList:=[ah (ae b),ah (ae d)]}] a λ(x:Int) a=>au a (c x)):=by kernel_rfl
theorem Vs (p:Option AC) (f x:Int) (w:A0) (c:Int->A0->Prop):(aI E0 (λ_=>[]) 183 [ah p,aa f,aa x] w c)=(
 aN w ⟨[aa x]⟩ 3 λb a=>aA A2 190 (.el aX) [ah p,aa f,.func (.func 227) ⟨[]⟩ {toList:=[ah (ae b)]}] a λ(x:Int) a=>au a (c x)):=by kernel_rfl
theorem Vt (p:Option AC) (f:Int) (w:A0) (a:Int->A0->Prop):(aI E0 (λ_=>[]) 79 [ah p,aa f] w a)=(
 aA A2 138 (.el aX) [ah p,aa f,aa 0,aa 0] w λ(x:Int) b=>au b (a x)):=by kernel_rfl
theorem Z3 (p:Option AC) (f:Int) (w:A0) (c:(Int×Int×Int×Int×Unit)×Bool×Unit->A0->Prop):(bW E0 (λ_=>[]) 25 [ah p,aa f] w c)=(
 aN w ⟨[aa 0,aa 0,aa 0,aa 0]⟩ 52 λb a=> ∃(x:Int),((!decide (f<0))=true->af A2 62 [ah p] a (aa x))/\aG (decide (f<0)||decide (f>=x)) (aC a (ae b) [aa 0,aa 0,aa 0,aa 0] λa=>au a λw1=>aj w1 none (ae b) dQ λ(x:Int×Int×Int×Int×Unit)=>c ((x.1,x.2.1,x.2.2.1,x.2.2.2.1,()),false,()) w1) (ff p 0 a λx=>(x.1.isSome=true/\0<=f/\f<(↑x.2.1:Int))/\aj a none (ad x.1 (f.toNat*4)) dQ λ(x:Int×Int×Int×Int×Unit)
 =>aC a (ae b) [aa x.1,aa x.2.1,aa x.2.2.1,aa x.2.2.2.1] λa=>au a λw1=>aj w1 none (ae b) dQ λ(x:Int×Int×Int×Int×Unit)=>c ((x.1,x.2.1,x.2.2.1,x.2.2.2.1,()),true,()) w1)):=by kernel_rfl
theorem CF (n:Int) (w:A0) (a:Option AC×Int×Unit->A0->Prop):(aI E0 (λ_=>[]) 72 [aa n] w a)=(
 aG (decide (n<1)||decide (n>4096)) (au w (a (none,1,()))) (NV w 32 4 n n ⟨[aa 0,aa 0,aa 0,aa 0]⟩ 52 λb c=>aN c {toList:=[.slice (ae b) n.toNat n.toNat]} 137 λb c=>au c (a (some ⟨b,0,none⟩,0,())))):=by kernel_rfl
theorem Vu (p:Option AC) (w:A0) (a:Option AC->A0->Prop):(aI E0 (λ_=>[]) 54 [ah p] w a)=(
 ∃(x:Int),af A2 62 [ah p] w (aa x)/\aG (x==0) (au w (a none)) (ff p 0 w λx=> ∀w1,Ext w w1->mJ w1 52 4 32 ⟨[aa 0,aa 0,aa 0,aa 0]⟩ (none,0,0) (x.1,x.2.1,x.2.2) λ(r:Option AC×Nat×Nat) c=>aN c ⟨[.slice r.1 r.2.1 r.2.2]⟩ 137 λb c=>au c (a (ae b)))):=by kernel_rfl
def uo:Nat->a7:=(λ|3=>[(9,.one (.int .i64))]| _=>[])
theorem RI (p:Option AC) (k:Int) (w:A0) (d:Int->A0->Prop):(bW E0 uo 30 [ah p,aa k] w d)=(
 aN w ⟨[aa 0]⟩ 3 λb c=>aC c (ae b) [aa 0] λc=>aA A2 65 (.el (.one (.Ac 146 2))) [ah p,aa k] c λx c=>z7 A2 146 (λ(y:Nat)=>[.func (Fn.yield y) ⟨[]⟩ ⟨[]⟩,ah x.1,ah x.2.1]) ⟨[9]⟩ c (λ(x:Int×Unit)=>[aa x.1]) (λ(l:Nat) (rec:Loop) (x:Int×Unit) e (R:Bool->A0->Prop)=>Dl l rec [aa x.1].length 1 e (BZ l rec e λa=>aV a (ae b) λx=>aC a (ae b) [aa (aH .i64 x 1)] λc=>
 sT l rec none c R)) λ(r:Nat) (rec:Loop) f=>dz (r+1) rec f (λa=>aV a (ae b) λx=>sU [r] a λw1=>d x w1) (λ(id:Nat) a=>Decidable.rec (λ(h:id=0->False)=>False) (λ(h:id=0)=>aV a (ae b) λx=>sU [r] a λw1=>d x w1) (match h:id.beq 0 with|true=>isTrue (Ga h)|false=>isFalse (Gd h))) λa=>sU [r] a λw1=>d 0 w1):=by kernel_rfl
def uq:Nat->a7:=(λ|4=>[(10,.one (.int .i64))]| _=>[])
theorem RJ (p:Option AC) (k:Int) (w:A0) (d:Option AC×Nat×Nat->A0->Prop):(bW E0 uq 166 [ah p,aa k] w d)=(
 aN w ⟨[aa k]⟩ 3 λb a=>aN a ⟨[.slice none 0 0]⟩ 39 λe a=>aA A2 104 (.el (.one (.Ac 146 2))) [ah p,.func (.func 207) ⟨[]⟩ {toList:=[ah (ae b)]}] a λx a=>z7 A2 146 (λ(y:Nat)=>[.func (Fn.yield y) ⟨[]⟩ ⟨[]⟩,ah x.1,ah x.2.1]) ⟨[10]⟩ a (λ(x:Int×Unit)=>[aa x.1]) (λ(l:Nat) (rec:Loop) (x:Int×Unit) g (R:Bool->A0->Prop)=>Dl l rec [aa x.1].length 1 g (BZ l rec g λc=>s9 c (ae e) λf=>aN c ⟨[aa x.1]⟩
 3 λb a=> ∀w1,Ext a w1->mJ w1 3 1 8 ⟨[aa 0]⟩ (f.1,f.2.1,f.2.2) (some ⟨b,0,none⟩,1,1) λ(r:Option AC×Nat×Nat) a=>aC a (ae e) [.slice r.1 r.2.1 r.2.2] λa=>sT l rec none a R)) λ(r:Nat) (rec:Loop) i=>dz (r+1) rec i (λc=>s9 c (ae e) λx=>sU [r] c λw1=>d (x.1,x.2.1,x.2.2) w1) (λ(id:Nat) c=>Decidable.rec (λ(h:id=0->False)=>False) (λ(h:id=0)=>s9 c (ae e) λx=>sU [r] c λw1=>d (x.1,
 x.2.1,x.2.2) w1) (match h:id.beq 0 with|true=>isTrue (Ga h)|false=>isFalse (Gd h))) λc=>sU [r] c λw1=>d (none,0,0) w1):=by kernel_rfl
def wq:Nat->a7:=(λ|5=>[(15,.one (.int .i64))]| _=>[])
theorem Vv (p:Option AC) (k o:Int) (w:A0) (g:Int×Int×Unit->A0->Prop):(bW E0 wq 172 [ah p,aa k,aa o] w g)=(
 aN w ⟨[ah p]⟩ 36 λb a=>aN a ⟨[aa k]⟩ 3 λn a=>aN a ⟨[aa o]⟩ 3 λq a=>aN a ⟨[aa 0]⟩ 3 λd a=>aN a ⟨[aa 0]⟩ 46 λe a=>gg a (ae b) λx=> ∃(i:Int),af A2 62 [ah x] a (aa i)/\aG (i==0) (aC a (ae d) [aa 0] λa=>aC a (ae e) [aa 10] λa=>au a λw1=>aV w1 (ae d) λx=>aV w1 (ae e) λf=>
 g (x,f,()) w1) (gg a (ae b) λx=>aA A2 65 (.el (.one (.Ac 146 2))) [ah x,aa 0] a λx a=>z7 A2 146 (λ(y:Nat)=>[.func (Fn.yield y) ⟨[]⟩ ⟨[]⟩,ah x.1,ah x.2.1]) ⟨[15]⟩ a (λ(x:Int×Unit)=>[aa x.1]) (λ(l:Nat) (rec:Loop) (x:Int×Unit) j (R:Bool->A0->Prop)=>Dl l rec [aa x.1].length 1 j (BZ l rec j λc=>gg c (ae b) λf=>aV c (ae n) λs=>aj c none
 (ae q) aX λ(t:Int)=>aA A2 138 (.el aX) [ah f,aa x.1,aa s,aa t] c λ(m:Int) a=>aG (m != 0) (aC a (ae d) [aa 0] λa=>aC a (ae e) [aa m] λa=>sT l rec (some Code.ret) a R) (aC a (ae d) [aa x.1] λa=>aC a (ae e) [aa 0] λa=>sT l rec (some Code.ret) a R))) λ(r:Nat) (rec:Loop) u=>dz (r+1) rec u (λc=>aC c (ae d) [aa 0]
 λa=>aC a (ae e) [aa 12] λa=>sU [r] a λw1=>aV w1 (ae d) λx=>aV w1 (ae e) λf=>g (x,f,()) w1) (λ(id:Nat) c=>Decidable.rec (λ(h:id=0->False)=>False) (λ(h:id=0)=>aC c (ae d) [aa 0] λa=>aC a (ae e) [aa 12] λa=>sU [r] a λw1=>aV w1 (ae d) λx=>aj w1 none (ae e) aX
 λ(f:Int)=>g (x,f,()) w1) (match h:id.beq 0 with|true=>isTrue (Ga h)|false=>isFalse (Gd h))) λc=>sU [r] c λw1=>aV w1 (ae d) λx=>aV w1 (ae e) λf=>g (x,f,()) w1)):=by kernel_rfl
abbrev sD:List Sc:=[.int .i64,.int .i64,.int .i64,.int .i64]
abbrev eD:El:= .agg sD
abbrev DT:Type:=Int×Int×Int×Int×Unit
def zD:DT:=(0,0,0,0,())
theorem se {w:A0} {bp n c:Nat} {a:Option AC} (h:bO w bp [.slice a n c]):aE A2 62 (.el (.one (.int .i64))) [ah (ae bp)] w (λx w'=>x=(n:Int)/\Ext w w'):=by
 refine ai (AJ (Z1 _ w _) ?_);have H:=At.start [] w;refine an rfl ⟨rfl,rfl,aj.lz H h (by simp) rfl ?_⟩
 grind
theorem Z4 {w:A0} {kc:Nat} {v:Int} (h:bO w kc [aa v]) (d:DT):aE A2 105 (.el (.one .bool)) [.agg ⟨bu sD d⟩,ah (ae kc)] w (λx w'=>x=(d.1==v)/\Ext w w'):=by
 obtain⟨k,o,r,e,u⟩:=d;refine ai (C:=E0) (aW:=λ_=>[]) (AJ (Z2 k o r e _ w _) ?_);have H:=At.start [] w
 repeat' (first
  |refine aj.fN H h (by simp) rfl ?_
  |exact Go.RX.aM.all H
  |simp
  |refine aj.at 0 H rfl rfl ?_
  |refine aN.go H λb w1 H=>?_
  |with_reducible refine au.go H λw1 H=>?_
  |refine kq ?_
  )
theorem LP {w:A0} {kc:Nat} {v:Int} (h:bO w kc [aa v]) (d:DT):aE A2 207 (.el (.one .bool)) [.agg ⟨bu sD d⟩,ah (ae kc)] w (λx w'=>x=(d.2.1==v)/\Ext w w'):=by
 obtain⟨k,o,r,e,u⟩:=d;refine ai (C:=E0) (aW:=λ_=>[]) (AJ (LM k o r e _ w _) ?_);have H:=At.start [] w
 repeat' (first
  |refine aj.fN H h (by simp) rfl ?_
  |exact Go.RX.aM.all H
  |simp
  |refine aj.at 0 H rfl rfl ?_
  |refine aN.go H λb w1 H=>?_
  |with_reducible refine au.go H λw1 H=>?_
  |refine kq ?_
  )
section
variable {D G:List Nat} {w0 w:A0} {L:List (Nat×List AF)}
theorem tq (H:aM D G w0 w L) (p:Option AC) (k:Int) {K:Option AC×Option AC×Unit->A0->Prop}
 (b: ∀pc ic kc w1,aM D G w0 w1 ((ic,[.func (.func 105) #[] #[ah (ae kc)]])::(pc,[ah p])::(kc,[aa k])::L)->K (some ⟨pc,0,none⟩,some ⟨ic,0,none⟩,()) w1):
 aA A2 65 aaM [ah p,aa k] w K:=by
 refine aA.go H λw1 H=>ai (AJ (abt p k w1 K) ?_);refine aN.go H λkc c H=>aA.go H λa H=>ai (AJ (Vp p _ a _) ?_);refine aN.go H λpc d H=>aN.go H λic e H=>au.go H λf H=>au.go H λH=>?_
 grind
theorem Vw (H:aM D G w0 w L) (p c:Option AC) {K:Option AC×Option AC×Unit->A0->Prop}
 (a: ∀pc ic w1,aM D G w0 w1 ((ic,[.func (.func 207) #[] #[ah c]])::(pc,[ah p])::L)->K (some ⟨pc,0,none⟩,some ⟨ic,0,none⟩,()) w1):
 aA A2 104 aaM [ah p,.func (.func 207) #[] #[ah c]] w K:=by
 refine aA.go H λw1 H=>ai (AJ (RF p c w1 K) ?_);refine aN.go H λpc b H=>aN.go H λic d H=>au.go H λH=>?_
 grind
end
def PB (fn:FuncId) (pc ic kc bp bf c:Nat) (v:Int) (ds:List DT) (rest:List AF) (w:A0):Prop:=
 bO w pc [ah (ae bp)]/\bO w ic [.func (.func fn) #[] #[ah (ae kc)]]/\bO w kc [aa v]/\bO w bp [.slice (ae bf) ds.length c]/\bO w bf (flat eD ds++rest)
theorem Em {pc ic kc bp bf c:Nat} {v:Int} {ds:List DT} {rest:List AF} (N:ds.length<=4096):
 Uj A2 146 (λy=>[.func (.yield y) #[] #[],ah (ae pc),ah (ae ic)]) ds.length
  (λi=>match ds[i]? with
   |some d=>if d.1=v then some [aa (i:Nat)] else none
   |none=>none) (PB 105 pc ic kc bp bf c v ds rest):=by
 intro y w J B a D m O E h0;have key:aE A2 146 (uN E1 146) [.func (.yield y) #[] #[],ah (ae pc),ah (ae ic)] w (λ_ w'=>J ds.length w'\/B w'):=by
  refine ai (C:=E1) (aW:=um) (AJ (RG y _ _ w _) ?_);obtain⟨s1,o,p,q,r⟩:=m 0 w h0;refine aj.of _ (s1.oF rfl) (an rfl (aj.of _ (s1.oF rfl) ⟨rfl,rfl,aj.of (some ⟨bf,0,none⟩,ds.length,c) (by rw[aY];exact q.oF rfl) ?_⟩));refine⟨λn s w'=> ∃i:Nat,s.1=i/\n+i=ds.length/\J i w',⟨ds.length,λw1 h1=>⟨0,rfl,rfl,a _ _ _ h0 h1⟩⟩,?_⟩;rintro n ⟨P,u⟩ w1 ⟨i,hi,Q,f⟩;simp only at hi;subst hi;dsimp only;refine ab (λc=>?_) (λc=>?_)
  ·have t:i<ds.length:=by simp only[decide_eq_true_eq] at c;omega
   obtain⟨s1,o,p,q,r⟩:=m i w1 f;have h:ds[i]? =some ds[i]:=Ae t;refine⟨⟨rfl,by omega,by omega⟩,aj.of ds[i] (fV r h) ?_⟩;have H:=At.start [] w1;have next: ∀w',J (i+1) w'-> ∀g,Ext w' g-> ∃z,z<n/\ ∃j:Nat,aH .i64 (i:Nat) 1=j/\z+j=ds.length/\J j g:=λw' k g l=>
    ⟨n - 1,by omega,i+1,by rw[ay (by omega) (by omega)];rfl,by omega,a _ _ _ k l⟩
   generalize F:ds[i]=d;rw[F] at h;refine aN.go H λb A H=>aC.all 0 H rfl rfl rfl λA H=>aj.of (some ⟨kc,0,none⟩,()) ((H.fN o (by simp)).oF rfl) (aj.at 0 H rfl rfl ?_);have G:=a _ _ _ f H.all;refine⟨d.1==v,af.of (s:= .el (.one .bool)) λw' h'=>Z4 ((H.fN p (by simp)).ext h') d,ab (λc=>λg l=>?_) (λc=>?_)⟩
   ·refine E i _ t (by simp only[h];rw[av (by simpa using c)]) g _ (a _ _ _ G l) (λw' k=>?_) (λw' I=>?_)
    ·exact an rfl (next w' k)
    ·exact aB rfl λR K=> .inr (D _ _ I K)
   ·exact next _ (by grind)
  ·have:i=ds.length:=by simp only[decide_eq_false_iff_not] at c;omega
   subst this;exact λA L=> .inl (a _ _ _ f L)
 exact Calls.mono key λe w' ⟨x,M,f⟩=>⟨_,M,f⟩
theorem RK {pc ic kc bp bf c:Nat} {v:Int} {ds:List DT} {rest:List AF} (N:ds.length<=4096):
 Uj A2 146 (λy=>[.func (.yield y) #[] #[],ah (ae pc),ah (ae ic)]) ds.length
  (λi=>match ds[i]? with
   |some d=>if d.2.1=v then some [aa (i:Nat)] else none
   |none=>none) (PB 207 pc ic kc bp bf c v ds rest):=by
 intro y w J B a D m O E h0;have key:aE A2 146 (uN E2 146) [.func (.yield y) #[] #[],ah (ae pc),ah (ae ic)] w (λ_ w'=>J ds.length w'\/B w'):=by
  refine ai (C:=E2) (aW:=rm) (AJ (LN y _ _ w _) ?_);obtain⟨s1,o,p,q,r⟩:=m 0 w h0;refine aj.of _ (s1.oF rfl) (an rfl (aj.of _ (s1.oF rfl) ⟨rfl,rfl,aj.of (some ⟨bf,0,none⟩,ds.length,c) (by rw[aY];exact q.oF rfl) ?_⟩));refine⟨λn s w'=> ∃i:Nat,s.1=i/\n+i=ds.length/\J i w',⟨ds.length,λw1 h1=>⟨0,rfl,rfl,a _ _ _ h0 h1⟩⟩,?_⟩;rintro n ⟨P,u⟩ w1 ⟨i,hi,Q,f⟩;simp only at hi;subst hi;dsimp only;refine ab (λc=>?_) (λc=>?_)
  ·have t:i<ds.length:=by simp only[decide_eq_true_eq] at c;omega
   obtain⟨s1,o,p,q,r⟩:=m i w1 f;have h:ds[i]? =some ds[i]:=Ae t;refine⟨⟨rfl,by omega,by omega⟩,aj.of ds[i] (fV r h) ?_⟩;have H:=At.start [] w1;have next: ∀w',J (i+1) w'-> ∀g,Ext w' g-> ∃z,z<n/\ ∃j:Nat,aH .i64 (i:Nat) 1=j/\z+j=ds.length/\J j g:=λw' k g l=>
    ⟨n - 1,by omega,i+1,by rw[ay (by omega) (by omega)];rfl,by omega,a _ _ _ k l⟩
   generalize F:ds[i]=d;rw[F] at h;refine aN.go H λb A H=>aC.all 0 H rfl rfl rfl λA H=>aj.of (some ⟨kc,0,none⟩,()) ((H.fN o (by simp)).oF rfl) (aj.at 0 H rfl rfl ?_);have G:=a _ _ _ f H.all;refine⟨d.2.1==v,af.of (s:= .el (.one .bool)) λw' h'=>LP ((H.fN p (by simp)).ext h') d,ab (λc=>λg l=>?_) (λc=>?_)⟩
   ·refine E i _ t (by simp only[h];rw[av (by simpa using c)]) g _ (a _ _ _ G l) (λw' k=>?_) (λw' I=>?_)
    ·exact an rfl (next w' k)
    ·exact aB rfl λR K=> .inr (D _ _ I K)
   ·exact next _ (by grind)
  ·have:i=ds.length:=by grind
   subst this;exact λA L=> .inl (a _ _ _ f L)
 exact Calls.mono key λe w' ⟨x,M,f⟩=>⟨_,M,f⟩
def aP (k o:Int) (d:DT):DT×Int:=((mS d.1 d.2.1 d.2.2.1 d.2.2.2.1 k o,lD d.1 d.2.1 d.2.2.1 d.2.2.2.1 k o,0,0,()),h_ d.1 d.2.1 d.2.2.1 d.2.2.2.1 k o)
def iv (x:Int) (d:DT):DT×Int:=(qN d.1 d.2.1 d.2.2.1 d.2.2.2.1 x,w_ d.1 d.2.1 d.2.2.1 d.2.2.2.1 x)
def vB (ds:List DT) (f:Int) (g:DT->DT×Int):Int:=if ds.length=0 then 10 else if f<0\/f>=ds.length then 2 else(g (ds.getD f.toNat zD)).2
def dH (ds:List DT) (f:Int) (g:DT->DT×Int):List DT:=if f<0\/f>=ds.length then ds else if(g (ds.getD f.toNat zD)).2=0 then ds.set f.toNat (g (ds.getD f.toNat zD)).1 else ds
theorem Bp {ds:List DT} (h:ds.length=0) (f:Int) (g:DT->DT×Int):vB ds f g=10:=av h
theorem Bq {ds:List DT} (h:ds.length=0) (f:Int) (g:DT->DT×Int):dH ds f g=ds:=av (by omega)
theorem Jj {ds:List DT} (h:ds.length≠0) {f:Int} (h1:f<0\/f>=ds.length) (g:DT->DT×Int):vB ds f g=2:=by grind[vB]
theorem xF {ds:List DT} {f:Int} (h1:f<0\/f>=ds.length) (g:DT->DT×Int):dH ds f g=ds:=av h1
theorem yJ {ds:List DT} {f:Int} (h1:0<=f/\f<ds.length) (g:DT->DT×Int):vB ds f g=(g (ds.getD f.toNat zD)).2:=by grind[vB]
theorem pG {ds:List DT} {f:Int} (h1:0<=f/\f<ds.length) (g:DT->DT×Int):dH ds f g=if(g (ds.getD f.toNat zD)).2=0 then ds.set f.toNat (g (ds.getD f.toNat zD)).1 else ds:=by grind[dH]
theorem jq (ds:List DT) (f:Int) (g:DT->DT×Int):(dH ds f g).length=ds.length:=by grind[dH]
theorem RM {w:A0} {kc oc:Nat} {k o:Int} (f:bO w kc [aa k]) (g:bO w oc [aa o]) (d:DT):aE A2 191 (.bA [eD,.one (.int .i64)]) [.agg ⟨bu sD d⟩,ah (ae kc),ah (ae oc)] w
 (λv w'=>v=((aP k o d).1,(aP k o d).2,())/\Ext w w'):=by
 obtain⟨a,b,c,e,u⟩:=d;refine aS (C:=E0) (aW:=λ_=>[]) (AJ (RH a b c e _ _ w _) ?_);have H:=At.start [] w
 repeat' (first
  |refine aj.fN H f (by simp) rfl ?_
  |refine aj.fN H g (by simp) rfl ?_
  |exact Go.RX.aM.all H
  |exact Aq (by first|rfl|decide+kernel) (Go.RX.aM.all H)
  |refine Aq (by simp) ?_
  |refine aj.cw 0 H rfl rfl ?_
  |refine aj.cw 1 H rfl rfl ?_
  |refine aj.at 0 H rfl rfl ?_
  |refine aj.at 1 H rfl rfl ?_
  |refine aN.go H λb w1 H=>?_
  |refine aC.all 0 H rfl rfl rfl λw1 H=>?_
  |refine aC.all 1 H rfl rfl rfl λw1 H=>?_
  |refine aC.gP 0 H rfl rfl rfl λw1 H=>?_
  |with_reducible refine au.go H λw1 H=>?_
  |refine kq ?_
  |refine aB (by assumption) ?_
  |refine an (by assumption) ?_
  )
theorem Vx {w:A0} {kc:Nat} {k:Int} (f:bO w kc [aa k]) (hi: -9223372036854775808<=k/\k<9223372036854775808) (d:DT):aE A2 227 (.bA [eD,.one (.int .i64)]) [.agg ⟨bu sD d⟩,ah (ae kc)] w
 (λv w'=>v=((iv k d).1,(iv k d).2,())/\Ext w w'):=by
 obtain⟨a,b,c,e,u⟩:=d;refine aS (C:=E0) (aW:=λ_=>[]) (AJ (Vq a b c e _ w _) ?_);have H:=At.start [] w
 repeat' (first
  |refine aj.fN H f (by simp) rfl ?_
  |refine Aq hi ?_
  |exact Go.RX.aM.all H
  |exact Aq (by first|rfl|decide+kernel) (Go.RX.aM.all H)
  |refine aj.cw 0 H rfl rfl ?_
  |refine aj.cw 1 H rfl rfl ?_
  |refine aj.at 0 H rfl rfl ?_
  |refine aj.at 1 H rfl rfl ?_
  |refine aN.go H λb w1 H=>?_
  |refine aC.all 0 H rfl rfl rfl λw1 H=>?_
  |refine aC.all 1 H rfl rfl rfl λw1 H=>?_
  |with_reducible refine au.go H λw1 H=>?_
  |refine kq ?_
  |refine aB (by assumption) ?_
  |refine an (by assumption) ?_
  )
theorem Hv {w:A0} {bp bf c kc oc:Nat} {k o:Int} {ds:List DT} {rest:List AF} (a:bO w bp [.slice (ae bf) ds.length c]) (q:bO w bf (flat eD ds++rest)) (r:bp≠bf) (B:ds.length<=4096) (t:bO w kc [aa k]) (u:bO w oc [aa o]) (v:kc≠bf) (x:oc≠bf) (f:Int):
 aE A2 190 (.el (.one (.int .i64))) [ah (ae bp),aa f,.func (.func 191) #[] #[ah (ae kc),ah (ae oc)]] w
  (λe w'=>e=vB ds f (aP k o)/\bO w' bf (flat eD (dH ds f (aP k o))++rest)/\Fr [bf] w w'):=by
 refine ai (C:=E0) (aW:=λ_=>[]) (AJ (LO _ f _ _ w _) ?_);have H:=At.sa q;have g:bp∉[bf]:=by simpa using r
 refine⟨(ds.length:Int),af.of (s:= .el (.one (.int .i64))) λw' h=>se (a.ext h),ab (λc0=>au.go H λw1 H=>?_) (λc0=>⟨λ_=>rfl,λ_=>rfl,aj.lz H a g rfl (ab (λc1=>au.go H λw1 H=>?_) (λc1=>?_))⟩)⟩
 ·have h0:ds.length=0:=by simp only[beq_iff_eq] at c0;omega
  exact⟨(Bp h0 f _).symm,by rw[Bq h0];exact H.get (i:=0) rfl,H.fr⟩
 ·have h0:ds.length≠0:=by simp only[beq_eq_false_iff_ne,ne_eq] at c0;omega
  have h1:f<0\/f>=ds.length:=by simpa using c1
  exact⟨(Jj h0 h1 _).symm,by rw[xF h1];exact H.get (i:=0) rfl,H.fr⟩
 ·have h1:0<=f/\f<ds.length:=by grind
  have n:f.toNat<ds.length:=by omega
  have p:ds[f.toNat]? =some ds[f.toNat]:=Ae n;have y:ds.getD f.toNat zD=ds[f.toNat]:=by rw[B3,p];rfl
  have j:=yJ h1 (aP k o);have l:=pG h1 (aP k o);rw[y] at j l;generalize D:ds[f.toNat]=d at*
  refine⟨rfl,rfl,aj.lz H a g rfl ⟨⟨rfl,h1.1,h1.2⟩,aj.of d (fV (H.get (i:=0) rfl) p) ?_⟩⟩;refine aA.val H (s:= .bA [eD,.one (.int .i64)]) (((aP k o) d).1,((aP k o) d).2,()) (λw1 H=>RM (H.fN t (by simpa using v)) (H.fN u (by simpa using x)) d) λw1 H=>?_;refine aN.go H λb z H=>aC.all 0 H rfl rfl rfl λz H=>ab (λc2=>⟨rfl,rfl,aj.lz H a g rfl (aj.at 0 H rfl rfl ⟨⟨rfl,h1.1,h1.2⟩,?_⟩)⟩) (λc2=>au.go H λA H=>?_)
  ·have m:((aP k o) d).2=0:=by simpa using c2
   refine aC.flat (e:=eD) 1 H (xs:=ds) (rest:=rest) ((aP k o) d).1 rfl rfl rfl n λA H=>au.go H λE H=>?_;exact⟨j.symm,by rw[l,av m];exact H.get (i:=1) rfl,H.fr⟩
  ·have m: ¬ ((aP k o) d).2=0:=by simpa using c2
   exact⟨j.symm,by rw[l,ao m];exact H.get (i:=1) rfl,H.fr⟩
theorem Hw {w:A0} {bp bf c kc:Nat} {k:Int} {ds:List DT} {rest:List AF} (a:bO w bp [.slice (ae bf) ds.length c]) (p:bO w bf (flat eD ds++rest)) (q:bp≠bf) (y:ds.length<=4096) (r:bO w kc [aa k]) (t:kc≠bf) (hi: -9223372036854775808<=k/\k<9223372036854775808) (f:Int):
 aE A2 190 (.el (.one (.int .i64))) [ah (ae bp),aa f,.func (.func 227) #[] #[ah (ae kc)]] w
  (λe w'=>e=vB ds f (iv k)/\bO w' bf (flat eD (dH ds f (iv k))++rest)/\Fr [bf] w w'):=by
 refine ai (C:=E0) (aW:=λ_=>[]) (AJ (Hu _ f _ w _) ?_);have H:=At.sa p;have g:bp∉[bf]:=by simpa using q
 refine⟨(ds.length:Int),af.of (s:= .el (.one (.int .i64))) λw' h=>se (a.ext h),ab (λc0=>au.go H λw1 H=>?_) (λc0=>⟨λ_=>rfl,λ_=>rfl,aj.lz H a g rfl (ab (λc1=>au.go H λw1 H=>?_) (λc1=>?_))⟩)⟩
 ·have h0:ds.length=0:=by simp only[beq_iff_eq] at c0;omega
  exact⟨(Bp h0 f _).symm,by rw[Bq h0];exact H.get (i:=0) rfl,H.fr⟩
 ·have h0:ds.length≠0:=by simp only[beq_eq_false_iff_ne,ne_eq] at c0;omega
  have h1:f<0\/f>=ds.length:=by simpa using c1
  exact⟨(Jj h0 h1 _).symm,by rw[xF h1];exact H.get (i:=0) rfl,H.fr⟩
 ·have h1:0<=f/\f<ds.length:=by grind
  have n:f.toNat<ds.length:=by omega
  have o:ds[f.toNat]? =some ds[f.toNat]:=Ae n;have u:ds.getD f.toNat zD=ds[f.toNat]:=by rw[B3,o];rfl
  have j:=yJ h1 (iv k);have l:=pG h1 (iv k);rw[u] at j l;generalize z:ds[f.toNat]=d at*
  refine⟨rfl,rfl,aj.lz H a g rfl ⟨⟨rfl,h1.1,h1.2⟩,aj.of d (fV (H.get (i:=0) rfl) o) ?_⟩⟩;refine aA.val H (s:= .bA [eD,.one (.int .i64)]) (((iv k) d).1,((iv k) d).2,()) (λw1 H=>Vx (H.fN r (by simpa using t)) hi d) λw1 H=>?_;refine aN.go H λb v H=>aC.all 0 H rfl rfl rfl λv H=>ab (λc2=>⟨rfl,rfl,aj.lz H a g rfl (aj.at 0 H rfl rfl ⟨⟨rfl,h1.1,h1.2⟩,?_⟩)⟩) (λc2=>au.go H λx H=>?_)
  ·have m:((iv k) d).2=0:=by simpa using c2
   refine aC.flat (e:=eD) 1 H (xs:=ds) (rest:=rest) ((iv k) d).1 rfl rfl rfl n λx H=>au.go H λA H=>?_;exact⟨j.symm,by rw[l,av m];exact H.get (i:=1) rfl,H.fr⟩
  ·have m: ¬ ((iv k) d).2=0:=by simpa using c2
   exact⟨j.symm,by rw[l,ao m];exact H.get (i:=1) rfl,H.fr⟩
theorem CG {w:A0} {bp bf c:Nat} {ds:List DT} {rest:List AF} (a:bO w bp [.slice (ae bf) ds.length c]) (b:bO w bf (flat eD ds++rest)) (d:bp≠bf) (g:ds.length<=4096) (f k o:Int):
 aE A2 138 (.el (.one (.int .i64))) [ah (ae bp),aa f,aa k,aa o] w (λe w'=>e=vB ds f (aP k o)/\bO w' bf (flat eD (dH ds f (aP k o))++rest)/\Fr [bf] w w'):=by
 refine ai (AJ (Vr _ f k o w _) ?_);have H:=At.sa b;have h:bp∉[bf]:=by simpa
 refine aN.go H λkc w1 H=>aN.go H λoc m H=>?_;refine aA.Dz H 2 rfl (λl H=>Hv (H.fN a h) (H.get (i:=2) rfl) d g (H.get (i:=1) rfl) (H.get (i:=0) rfl) (H.ne (i:=1) (j:=2) rfl rfl (by decide)) (H.ne (i:=0) (j:=2) rfl rfl (by decide)) f) λl H=>au.go H λn H=>?_;exact⟨rfl,H.get (i:=2) rfl,H.fr⟩
theorem Vy {w:A0} {bp bf c:Nat} {ds:List DT} {rest:List AF} (a:bO w bp [.slice (ae bf) ds.length c]) (b:bO w bf (flat eD ds++rest)) (d:bp≠bf) (g:ds.length<=4096) (f x:Int) (hi: -9223372036854775808<=x/\x<9223372036854775808):
 aE A2 183 (.el (.one (.int .i64))) [ah (ae bp),aa f,aa x] w (λe w'=>e=vB ds f (iv x)/\bO w' bf (flat eD (dH ds f (iv x))++rest)/\Fr [bf] w w'):=by
 refine ai (AJ (Vs _ f x w _) ?_);have H:=At.sa b;have h:bp∉[bf]:=by grind
 refine aN.go H λkc w1 H=>?_;refine aA.Dz H 1 rfl (λk H=>Hw (H.fN a h) (H.get (i:=1) rfl) d g (H.get (i:=0) rfl) (H.ne (i:=0) (j:=1) rfl rfl (by decide)) hi f) λk H=>au.go H λl H=>?_;exact⟨rfl,H.get (i:=1) rfl,H.fr⟩
theorem Vz {w:A0} {bp bf c:Nat} {ds:List DT} {rest:List AF} (a:bO w bp [.slice (ae bf) ds.length c]) (b:bO w bf (flat eD ds++rest)) (d:bp≠bf) (g:ds.length<=4096) (f:Int):
 aE A2 79 (.el (.one (.int .i64))) [ah (ae bp),aa f] w (λe w'=>e=vB ds f (aP 0 0)/\bO w' bf (flat eD (dH ds f (aP 0 0))++rest)/\Fr [bf] w w'):=by
 refine ai (AJ (Vt _ f w _) ?_);have H:=At.sa b;have h:bp∉[bf]:=by grind
 refine aA.Dz H 0 rfl (λj H=>CG (H.fN a h) (H.get (i:=0) rfl) d g f 0 0) λj H=>au.go H λk H=>?_;exact⟨rfl,H.get (i:=0) rfl,H.fr⟩
def qI (ds:List DT) (f:Int):DT:=if f<0\/f>=ds.length then zD else ds.getD f.toNat zD
def Ag (ds:List DT) (f:Int):Bool:= !(decide (f<0\/f>=ds.length))
theorem PC {w:A0} {bp bf c:Nat} {ds:List DT} {rest:List AF} (e:bO w bp [.slice (ae bf) ds.length c]) (i:bO w bf (flat eD ds++rest)) (f:Int):
 aE A2 25 (.bA [eD,.one .bool]) [ah (ae bp),aa f] w (λv w'=>v=(qI ds f,Ag ds f,())/\Ext w w'):=by
 refine aS (C:=E0) (aW:=λ_=>[]) (AJ (Z3 _ f w _) ?_);have H:=At.start [] w;refine aN.go H λb w1 H=>⟨(ds.length:Int),λ_=>af.of (s:= .el (.one (.int .i64))) λw' h=>se ((H.fN e (by simp)).ext h),ab (λc1=>?_) (λc1=>?_)⟩
 ·have h1:f<0\/f>=ds.length:=by simpa using c1
  have a:qI ds f=zD:=av h1;have d:Ag ds f=false:=by unfold Ag;simp[h1]
  rw[a,d]
  repeat' (first
   |exact Go.RX.aM.all H
   |exact Aq (by first|rfl|decide+kernel) (Go.RX.aM.all H)
   |refine aj.cw 0 H rfl rfl ?_
   |refine aj.at 0 H rfl rfl ?_
   |refine aN.go H λb w1 H=>?_
   |refine aC.all 0 H rfl rfl rfl λw1 H=>?_
   |refine aC.gP 0 H rfl rfl rfl λw1 H=>?_
   |refine aC.one 0 H rfl rfl rfl λw1 H=>?_
   |with_reducible refine au.go H λw1 H=>?_
   |refine kq ?_
   |refine aB (by assumption) ?_
   |refine an (by assumption) ?_
   |refine ab (λc=>?_) (λc=>?_))
 ·have h1: ¬ (f<0\/f>=ds.length):=by
   grind
  have j:f.toNat<ds.length:=by omega
  have g:ds[f.toNat]? =some ds[f.toNat]:=Ae j;have k:ds.getD f.toNat zD=ds[f.toNat]:=by rw[B3,g];rfl
  have a:qI ds f=ds[f.toNat]:=by unfold qI;rw[ao h1,k]
  have d:Ag ds f=true:=by unfold Ag;simp[h1]
  rw[a,d];refine⟨rfl,rfl,aj.lz H e (by simp) rfl ⟨by grind,aj.of ds[f.toNat] (fV (H.fN i (by simp)) g) ?_⟩⟩
  repeat' (first
   |exact Go.RX.aM.all H
   |exact Aq (by first|rfl|decide+kernel) (Go.RX.aM.all H)
   |grind
   |refine aj.cw 0 H rfl rfl ?_
   |refine aj.at 0 H rfl rfl ?_
   |refine aN.go H λb w1 H=>?_
   |refine aC.all 0 H rfl rfl rfl λw1 H=>?_
   |refine aC.gP 0 H rfl rfl rfl λw1 H=>?_
   |refine aC.one 0 H rfl rfl rfl λw1 H=>?_
   |with_reducible refine au.go H λw1 H=>?_
   |refine kq ?_
   |refine aB (by assumption) ?_
   |refine an (by assumption) ?_
   |refine ab (λc=>?_) (λc=>?_))
section
variable {D G:List Nat} {w0 w:A0} {L:List (Nat×List AF)}
theorem VA (n:Nat):(B4 n [aa 0,aa 0,aa 0,aa 0]).flatten=flat eD (B4 n zD)++[]:=by
 rw[Cg,lT];rfl
theorem CH (H:aM D G w0 w L) (n:Int) {K:Option AC×Int×Unit->A0->Prop} (hb:n<1\/n>4096-> ∀w1,aM D G w0 w1 L->K (none,1,()) w1)
 (hg:1<=n->n<=4096-> ∀bp bf w1,aM D G w0 w1 ((bp,[.slice (ae bf) n.toNat n.toNat])::(bf,flat eD (B4 n.toNat zD)++[])::L)->K (some ⟨bp,0,none⟩,0,()) w1):
 aA A2 72 (.bA [.one .ptr,.one (.int .i64)]) [aa n] w K:=by
 refine aA.go H λw1 H=>ai (AJ (CF n w1 K) ?_);refine ab (λc=>au.go H (by grind)) (λc=>?_);have h1:1<=n/\n<=4096:=by grind
 refine NV.go H rfl (by omega) (by omega) (by omega) (by omega) λbf a H=>?_;rw[VA] at H;exact aN.go H λbp b H=>au.go H (by grind)
theorem VB (H:aM D G w0 w L) {bp bf n c:Nat} {ds:List DT} {rest:List AF} (g:bO w bp [.slice (ae bf) n c]) (i:bO w bf (flat eD ds++rest)) (j:n=ds.length) (h0:0<n) (m:n<=4096) {K:Option AC->A0->Prop}
 (k: ∀a b d f w1,aM D G w0 w1 ((a,[.slice (ae b) n d])::(b,flat eD ds++f)::L)->K (ae a) w1):
 aE A2 54 (.el (.one .ptr)) [ah (ae bp)] w K:=by
 refine ai (C:=E0) (aW:=λ_=>[]) (AJ (Vu _ w K) ?_);refine⟨(n:Int),af.of λw' h=>se (g.ext h),ab (λc0=>?_) (λc0=>⟨rfl,rfl,aj.of (some ⟨bf,0,none⟩,n,c) (by rw[aY];exact g.oF rfl) λw1 h1=>?_⟩)⟩
 grind
 ·refine mJ.copy (H.ext h1) (e:=eD) (ys:=ds) (i.ext h1) ?_ j (by grind) rfl rfl rfl (by omega) λb d f o H=>aN.go H λa p H=>au.go H λl H=>k a b d f l H;rw[FS (by rw[aF];exact DA _),Dw (by rw[aF];exact DA _)]
end
def cg (ds:List DT) (v:Int):Nat:=ds.countP λd=>d.1==v
def fY (ds:List DT) (v:Int):List Nat:=(Ct ds.length).filter λi=>match ds[i]? with
 |some d=>d.2.1==v
 |none=>false
theorem En {ds:List DT} {v:Int} {i:Nat} {d:DT} (h:ds[i]? =some d):cg (ds.take (i+1)) v=cg (ds.take i) v+(if d.1=v then 1 else 0):=by grind[cg,IP]
theorem xG {ds:List DT} {i:Nat} {v:Int} {TI:DT->Int} {x:List AF} (h:(match ds[i]? with
 |some d=>if TI d=v then some [aa (i:Nat)] else none
 |none=>none)=some x): ∃d,ds[i]? =some d/\TI d=v/\x=[aa (i:Nat)]:=by
 grind
theorem CI {ds:List DT} {i:Nat} {v:Int} {TI:DT->Int} (hi:i<ds.length) (h:(match ds[i]? with
 |some d=>if TI d=v then some [aa (i:Nat)] else none
 |none=>none)=none): ∃d,ds[i]? =some d/\TI d≠v:=by grind
theorem Eo {w:A0} {bp bf n c:Nat} {ds:List DT} {rest:List AF} (k:bO w bp [.slice (ae bf) n c]) (m:bO w bf (flat eD ds++rest)) (o:n=ds.length) (p:n<=4096) (v:Int):
 aE A2 30 (.el (.one (.int .i64))) [ah (ae bp),aa v] w (λx w'=>x=(cg ds v:Int)/\Ext w w'):=by
 subst o;refine aS (C:=E0) (aW:=uo) (AJ (RI _ v w _) ?_);have H:=At.start [] w;refine aN.go H λb w1 H=>aC.all 0 H rfl rfl rfl λz H=>tq H _ v λpc ic kc A H=>?_;refine z7.go H (Em (v:=v) (pc:=pc) (ic:=ic) (kc:=kc) (bp:=bp) (bf:=bf) (c:=c) (rest:=rest) p)
  (λi=>[(ic,[.func (.func 105) #[] _]),(pc,[ah (ae bp)]),(kc,[aa v]),(b,[aa (cg (ds.take i) v:Nat)])])
  (λ_ _=>False) rfl ?_ ?_ ?_ ?_ ?_ ?_
 ·exact λB i w' H=>⟨H.get (i:=1) rfl,H.get (i:=0) rfl,H.get (i:=2) rfl,H.fN k (by simp),H.fN m (by simp)⟩
 ·intro i hi f;obtain⟨d,g,hs⟩:=CI hi f;simp only[En g,ao hs,GS]
 ·simp_all
 ·intro i x hi f r l rec h R a h1 _;obtain⟨d,g,hs,hx⟩:=xG f;refine Dl.go a rfl (BZ.go a λwb H q=>aj.at 3 H rfl rfl (aC.all 3 H rfl rfl rfl λs H=>sT.next q H λt u=>h1 t ?_));have D:cg (ds.take i) v<=4096:=Do List.countP_le_length (by grind);have e:aH .i64 ((cg (ds.take i) v:Nat):Int) 1=((cg (ds.take (i+1)) v:Nat):Int):=by
   rw[En g,av hs,ay (by omega) (by omega)];rfl
  rw[<-e];exact u
 ·intro r rec h a;refine dz.none a λs H=>aj.at 3 H rfl rfl (sU.go H λE H=>?_);exact⟨by rw[Iy],H.all⟩
 ·exact λj L' r rec h y _=>y.elim
theorem Ep {ds:List DT} {v:Int} {i:Nat} {d:DT} (h:ds[i]? =some d):fY (ds.take (i+1)) v=fY (ds.take i) v++(if d.2.1=v then[i] else[]):=by
 have hi:=(B1.1 h).1;unfold fY;rw[GG,GG,J3 (by omega),J3 (by omega),FX,Hb];congr 1
 ·apply List.filter_congr
  grind
 ·simp[FY,h]
theorem RN {w:A0} {bp bf n c:Nat} {ds:List DT} {rest:List AF} (t:bO w bp [.slice (ae bf) n c]) (y:bO w bf (flat eD ds++rest)) (z:n=ds.length) (A:n<=4096) (v:Int):
 aE A2 166 (.el (.one .slice)) [ah (ae bp),aa v] w (λr w'=>lW w w' eI r ((fY ds v).map λi=>((i:Nat):Int))/\Ext w w'):=by
 subst z;refine aS (C:=E0) (aW:=uq) (AJ (RJ _ v w _) ?_);have H:=At.start [] w;refine aN.go H λkc w1 H=>aN.go H λb U H=>Vw H _ _ λpc ic V H=>?_
 let a:Nat->List Int:=λi=>(fY (ds.take i) v).map λi=>((i:Nat):Int)
 have B: ∀i,(a i).length<=4096:=λi=>by
  simp only[a,Ft];refine Do (Hr _ _) ?_;simp only[List.length_range,GG];omega
 let f:Option AC×Nat×Nat->List (Nat×List AF):=λs=>[(ic,[.func (.func 207) #[] #[ah (ae kc)]]),(pc,[ah (ae bp)]),(b,[.slice s.1 s.2.1 s.2.2]),(kc,[aa v])]
 let Inv:Nat->List (Nat×List AF)->Prop:=λi L'=> ∃s Ls,L'=Ls++f s/\((s=(none,0,0)/\a i=[]/\Ls=[])\/ ∃bs cs rs,s=(some ⟨bs,0,none⟩,(a i).length,cs)/\Ls=[(bs,flat eI (a i)++rs)]/\(flat eI (a i)++rs).length=cs*aD eI/\(a i).length<=cs)
 refine z7.inv H (RK (v:=v) (pc:=pc) (ic:=ic) (kc:=kc) (bp:=bp) (bf:=bf) (c:=c) (rest:=rest) A) Inv
  (λ_ _=>False) ⟨(none,0,0),[],rfl,.inl ⟨rfl,rfl,rfl⟩⟩ ?_ ?_ ?_ ?_ ?_ ?_
 ·rintro W i w' L' ⟨s,Ls,rfl, _⟩ H;have H:=H.sub (List.sublist_append_right Ls (f s));exact⟨H.get (i:=1) rfl,H.get (i:=0) rfl,H.get (i:=3) rfl,H.fN t (by simp),H.fN y (by simp)⟩
 ·rintro i L' hi k ⟨s,Ls,rfl,hs⟩;obtain⟨d,m,D⟩:=CI (TI:=λd=>d.2.1) hi k;have e:a (i+1)=a i:=by simp only[a,Ep m,ao D,Cg]
  exact⟨s,Ls,rfl,by rw[e];exact hs⟩
 ·simp_all
 ·rintro i x L' hi k ⟨s,Ls,rfl,hs⟩ r l rec o R g h1 _;obtain⟨d,m,E,hx⟩:=xG (TI:=λd=>d.2.1) k;have p:x.1=((i:Nat):Int):=by
   have h:[aa x.1]=[aa (i:Nat)]:=hx;simpa using h
  obtain⟨X,u⟩:=x;simp only at p;subst p;have e:a (i+1)=a i++[((i:Nat):Int)]:=by simp only[a,Ep m,av E,FW,List.map_cons,List.map_nil]
  have Y:=B i;have q:(a (i+1)).length=(a i).length+1:=by rw[e];simp
  refine Dl.go g rfl (BZ.go g λwb H F=>aj.of s ?_ (aN.go H λZ G H=>λI J=>?_))
  ·exact(H.dj (b,[.slice s.1 s.2.1 s.2.2]) (BW _ (by simp[f]))).oF rfl
  ·refine aM.grow (e:=eI) (x:=((i:Nat):Int)) (Ls:=Ls) (L0:=f s) (H.ext J) hs rfl rfl rfl (by omega) λbs cs rs w7 K L H=>?_;refine aC.all 3 H rfl rfl rfl λw8 H=>sT.next F H λM N=>h1 _ M ⟨(some ⟨bs,0,none⟩,(a i).length+1,cs),[(bs,flat eI (a (i+1))++rs)],rfl,.inr ⟨bs,cs,rs,by rw[q],rfl,by rw[e];exact K,by rw[q];exact L⟩⟩ ?_
   rw[e];exact N
 ·rintro L' r rec o ⟨s,Ls,rfl,hs⟩ g;refine dz.none g λG H=>aj.of s ?_ (sU.go H λI H=>?_)
  ·exact(H.dj (b,[.slice s.1 s.2.1 s.2.2]) (BW _ (by simp[f]))).oF rfl
  ·refine⟨?_,H.all⟩;have O:a ds.length=(fY ds v).map λi=>((i:Nat):Int):=by simp only[a,Iy]
   rw[<-O];rcases hs with ⟨rfl,P,rfl⟩|⟨bs,cs,rs,rfl,rfl,Q,S⟩
   ·rw[P];exact lW.nil _ _ _
   ·refine⟨rfl,S,.inr ⟨bs, _,rfl,(H.own _ (DL _ (List.mem_singleton.2 rfl))).resolve_right (by simp),H.get (i:=0) rfl,Q,?_⟩⟩;rw[FS (by rw[aF];exact DA _),Dw (by rw[aF];exact DA _)]
 ·exact λj L' r rec o T _=>T.elim
def iR (ds:List DT):Option Nat:=ds.findIdx? λd=>d.1==0
def fg (ds:List DT) (k o:Int):Int:=match iR ds with
 |none=>0
 |some f=>if vB ds f (aP k o)=0 then(f:Int) else 0
def dN (ds:List DT) (k o:Int):Int:=if ds.length=0 then 10 else match iR ds with
 |none=>12
 |some f=>vB ds f (aP k o)
def dE (ds:List DT) (k o:Int):List DT:=match iR ds with
 |none=>ds
 |some f=>dH ds f (aP k o)
theorem vi (ds:List DT) (k o:Int):(dE ds k o).length=ds.length:=by
 unfold dE;split
 ·rfl
 ·exact jq _ _ _
theorem LQ {ds:List DT} (h: ∀(j:Nat) d,ds[j]? =some d->d.1≠0):iR ds=none:=by
 unfold iR;rw[List.findIdx?_eq_none_iff];intro d a;obtain⟨j,b⟩:=F6 a;simpa using h j d b
theorem LR {ds:List DT} {i:Nat} {d:DT} (hi:ds[i]? =some d) (a:d.1=0) (h: ∀(j:Nat) d,j<i->ds[j]? =some d->d.1≠0):iR ds=some i:=by
 unfold iR;have b:i<ds.length:=(B1.1 hi).1;rw[List.findIdx?_eq_some_iff_getElem];refine⟨b,?_,λj c=>?_⟩
 ·have e:ds[i]=d:=(B1.1 hi).2;rw[e];simpa using a
 ·have:=h j ds[j] c (Ae (by omega));simpa using this
theorem VC {w:A0} {bp bf n c:Nat} {ds:List DT} {rest:List AF} (z:bO w bp [.slice (ae bf) n c]) (N:bO w bf (flat eD ds++rest)) (I:bp≠bf) (O:n=ds.length) (J:n<=4096) (k o:Int):
 aE A2 172 (.bA [.one (.int .i64),.one (.int .i64)]) [ah (ae bp),aa k,aa o] w
  (λv w'=>v=(fg ds k o,dN ds k o,())/\bO w' bf (flat eD (dE ds k o)++rest)/\Fr [bf] w w'):=by
 subst O;refine aS (C:=E0) (aW:=wq) (AJ (Vv _ k o w _) ?_);have H:=At.sa N;have A:bp∉[bf]:=by simpa using I
 refine aN.go H λb w1 H=>aN.go H λP X H=>aN.go H λQ Y H=>aN.go H λS Z H=>aN.go H λU w5 H=>aj.at 4 H rfl rfl ?_;refine⟨(ds.length:Int),af.of (s:= .el (.one (.int .i64))) λw' h=>se ((H.fN z A).ext h),ab (λc0=>?_) (λc0=>aj.at 4 H rfl rfl ?_)⟩
 ·have h0:ds.length=0:=by simp only[beq_iff_eq] at c0;omega
  have a:ds=[]:=List.eq_nil_of_length_eq_zero h0;refine aC.all 1 H rfl rfl rfl λV H=>aC.all 0 H rfl rfl rfl λB H=>au.go H λq H=>aj.at 1 H rfl rfl (aj.at 0 H rfl rfl ⟨?_,?_,H.fr⟩)
  ·subst a;rfl
  ·subst a;exact H.get (i:=5) rfl
 have h0:ds.length≠0:=by simp only[beq_eq_false_iff_ne,ne_eq] at c0;omega
 refine tq H _ 0 λpc ic kc V H=>?_
 let T:Int->Int->List DT->List (Nat×List AF):=λx y l=>[(ic,[.func (.func 105) #[] #[ah (ae kc)]]),(pc,[ah (ae bp)]),(kc,[aa 0]),(U,[aa y]),(S,[aa x]),(Q,[aa o]),(P,[aa k]),(b,[ah (ae bp)]),(bf,flat eD l++rest)]
 refine z7.inv H (Em (v:=0) (pc:=pc) (ic:=ic) (kc:=kc) (bp:=bp) (bf:=bf) (c:=c) (rest:=rest) J)
  (λi L'=>L'=T 0 0 ds/\ ∀(j:Nat) d,j<i->ds[j]? =some d->d.1≠0)
  (λj L'=>j= .ret/\ ∃i:Nat,iR ds=some i/\L'=T (if vB ds i (aP k o)=0 then(i:Int) else 0) (vB ds i (aP k o)) (dH ds i (aP k o))) ⟨rfl,λj d g=>absurd g (by omega)⟩ ?_ ?_ ?_ ?_ ?_ ?_
 ·rintro D' i w' L' ⟨rfl, _⟩ H;exact⟨H.get (i:=1) rfl,H.get (i:=0) rfl,H.get (i:=2) rfl,H.fN z A,H.get (i:=8) rfl⟩
 ·rintro i L' hi p ⟨rfl,g⟩;obtain⟨d,a,hs⟩:=CI (TI:=λd=>d.1) hi p;refine⟨rfl,λj d' Ad D=>?_⟩;by_cases e:j=i
  ·subst e;rw[a] at D;cases D;exact hs
  ·exact g j d' (by omega) D
 ·intro i x hi p;obtain⟨d,a,hs,rfl⟩:=xG (TI:=λd=>d.1) p;exact⟨((i:Nat),()),rfl⟩
 ·rintro i ⟨K,u⟩ L' hi p ⟨rfl,g⟩ r l rec B R m _ L;obtain⟨d,a,hs,hx⟩:=xG (TI:=λd=>d.1) p;have W:K=((i:Nat):Int):=by
   have h:[aa K]=[aa (i:Nat)]:=hx;simpa using h
  subst W;have f:=LR a hs g;refine Dl.go m rfl (BZ.go m λwb H E=>aj.at 7 H rfl rfl (aj.at 6 H rfl rfl (aj.at 5 H rfl rfl ?_)));refine aA.Dz H 8 rfl (λq H=>CG (E.2.1.c_ H z A) (H.get (i:=8) rfl) I J _ k o) λq H=>ab (λc=>?_) (λc=>?_)
  ·have hc: ¬ vB ds (i:Nat) (aP k o)=0:=by simpa using c
   refine aC.all 4 H rfl rfl rfl λF H=>aC.all 3 H rfl rfl rfl λM H=>sT.left E H λt G=>L _ _ t ⟨rfl,i,f,?_⟩ G;rw[ao hc];rfl
  ·have hc:vB ds (i:Nat) (aP k o)=0:=by simpa using c
   refine aC.all 4 H rfl rfl rfl λF H=>aC.all 3 H rfl rfl rfl λM H=>sT.left E H λt G=>L _ _ t ⟨rfl,i,f,?_⟩ G;rw[av hc,hc];rfl
 ·rintro L' r rec B ⟨rfl,g⟩ m;have f:iR ds=none:=LQ λj d a=>g j d (B1.1 a).1 a;refine dz.none m λq H=>aC.all 4 H rfl rfl rfl λF H=>aC.all 3 H rfl rfl rfl λM H=>sU.go H λt H=>aj.at 4 H rfl rfl (aj.at 3 H rfl rfl ⟨?_,?_,H.fr⟩)
  ·unfold fg dN;rw[f,ao h0]
  ·have:dE ds k o=ds:=by unfold dE;rw[f]
   rw[this];exact H.get (i:=8) rfl
 ·rintro j L' r rec B ⟨rfl,i,f,rfl⟩ m;refine dz.ret m λq H=>sU.go H λF H=>aj.at 4 H rfl rfl (aj.at 3 H rfl rfl ⟨?_,?_,H.fr⟩)
  ·unfold fg dN;rw[f,ao h0]
  ·have:dE ds k o=dH ds i (aP k o):=by unfold dE;rw[f]
   rw[this];exact H.get (i:=8) rfl
end Go.Proofs.YtlcenllcmeebhaaGreat.D
